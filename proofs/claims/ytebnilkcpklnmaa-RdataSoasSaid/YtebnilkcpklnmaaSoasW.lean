/-
  The walk of RdataSoas: the data of any beginning of authority, and the one of any data.
-/
import Derived.Test.YtebnilkcpklnmaaRdQ
import Derived.Test.YtebnilkcpklnmaaRdL
namespace Go.Proofs.Ytebnilkcpklnmaa
open Go.RowKit
set_option linter.unusedSimpArgs false
set_option linter.unusedVariables false
set_option maxRecDepth 100000 in
theorem soas_long (a1 a2 : Bs) (a3 a4 a5 a6 a7 : Int) (d : Bs) (hs : ¬ ((a1.length ≤ 5000 ∧ a2.length ≤ 5000) ∧ d.length ≤ 5000)) (w : World) : Calls Try.prog 9 #[.agg #[.string ⟨a1.toArray⟩, .string ⟨a2.toArray⟩, .int .i64 a3, .int .i64 a4, .int .i64 a5, .int .i64 a6, .int .i64 a7], .string ⟨d.toArray⟩] w (Rets fun r w' => r = .bool true ∧ Upd0 w w') := by
  cases h1 : (decide (a1.length ≤ 5000) && decide (a2.length ≤ 5000)) <;> cases h2 : (decide (d.length ≤ 5000) && decide (([] : Bs).length ≤ 5000))
  rotate_left 3
  · exfalso
    simp only [Bool.and_eq_true, decide_eq_true_eq] at h1 h2
    exact hs ⟨h1, h2.1⟩
  all_goals
    have hh1 := Lib.hid h1
    have hh2 := Lib.hid h2
    have tok1 : True := trivial
    clear h1 h2 hs
    go_enter Try.func9, Try.ntmps9
    go_wp2_with (first
      | (go_at_call 27; have _t := tok1; (with_reducible refine (short_w a1 a2 _).use ?_); rintro v w1 ⟨rfl, hu1⟩; rw [hh1.out]; clear tok1 _t)
      | (go_at_call 27; (with_reducible refine (short_w d [] _).use ?_); rintro v w2 ⟨rfl, hu2⟩; rw [hh2.out])
      | (go_at_call 28; (with_reducible refine (live_w _).use ?_); rintro v w3 ⟨rfl, hu3⟩)
      | (with_reducible refine wp_serial (by kernel_rfl) (by kernel_rfl) (by (repeat (first | (with_reducible apply NoBad.then) | (with_reducible apply NoBad.inBlock) | (with_reducible exact NoBad.rets))); done) ?_)
      | fail)
    all_goals go_returns
    all_goals exact ⟨rfl, (by (repeat (first | (with_reducible exact Upd.refl _ _) | (with_reducible assumption) | (with_reducible apply Upd.drew) | (with_reducible apply Upd.alloc) | (refine Upd0.tr ?_ (by with_reducible assumption)) | (refine Upd.setCell ?_ (fun h => absurd h (by first | exact Nat.lt_irrefl _ | (simp only []; omega))) _))); done)⟩
set_option maxRecDepth 100000 in
set_option maxHeartbeats 1000000 in
theorem soas_short (a1 a2 : Bs) (a3 a4 a5 a6 a7 : Int) (d : Bs) (x1 x2 : Bs) (x3 x4 x5 x6 x7 : Int) (B : Bs) (c e : Int) (h1 : (decide (a1.length ≤ 5000) && decide (a2.length ≤ 5000)) = true) (h2 : (decide (d.length ≤ 5000) && decide (([] : Bs).length ≤ 5000)) = true)
    (C1 : ∀ w, Calls Try.prog 31 #[.agg #[.string ⟨a1.toArray⟩, .string ⟨a2.toArray⟩, .int .i64 a3, .int .i64 a4, .int .i64 a5, .int .i64 a6, .int .i64 a7]] w (Rets fun r w' => r = .tuple #[.string ⟨B.toArray⟩, .int .i64 c] ∧ Upd0 w w'))
    (C2 : ∀ w, Calls Try.prog 32 #[.agg #[.string ⟨a1.toArray⟩, .string ⟨a2.toArray⟩, .int .i64 a3, .int .i64 a4, .int .i64 a5, .int .i64 a6, .int .i64 a7]] w (Rets fun r w' => r = .tuple #[.string ⟨B.toArray⟩, .int .i64 c] ∧ Upd0 w w'))
    (C3 : ∀ w, Calls Try.prog 33 #[.string ⟨d.toArray⟩] w (Rets fun r w' => r = .tuple #[.agg #[.string ⟨x1.toArray⟩, .string ⟨x2.toArray⟩, .int .i64 x3, .int .i64 x4, .int .i64 x5, .int .i64 x6, .int .i64 x7], .int .i64 e] ∧ Upd0 w w'))
    (C4 : ∀ w, Calls Try.prog 34 #[.string ⟨d.toArray⟩] w (Rets fun r w' => r = .tuple #[.agg #[.string ⟨x1.toArray⟩, .string ⟨x2.toArray⟩, .int .i64 x3, .int .i64 x4, .int .i64 x5, .int .i64 x6, .int .i64 x7], .int .i64 e] ∧ Upd0 w w'))
    (w : World) : Calls Try.prog 9 #[.agg #[.string ⟨a1.toArray⟩, .string ⟨a2.toArray⟩, .int .i64 a3, .int .i64 a4, .int .i64 a5, .int .i64 a6, .int .i64 a7], .string ⟨d.toArray⟩] w (Rets fun r w' => r = .bool true ∧ Upd0 w w') := by
  have hh1 := Lib.hid h1
  have hh2 := Lib.hid h2
  have D1 := Lib.hid C1
  have D2 := Lib.hid C2
  have D3 := Lib.hid C3
  have D4 := Lib.hid C4
  have tok1 : True := trivial
  clear h1 h2 C1 C2 C3 C4
  go_enter Try.func9, Try.ntmps9
  go_wp2_with (first
    | (go_at_call 27; have _t := tok1; (with_reducible refine (short_w a1 a2 _).use ?_); rintro v w1 ⟨rfl, hu1⟩; rw [hh1.out]; have z1 := Lib.hid (hu1.block (fun h => h) (alloc_last _ _ w.heap.size rfl)); clear tok1 _t)
    | (go_at_call 27; (with_reducible refine (short_w d [] _).use ?_); rintro v w2 ⟨rfl, hu2⟩; rw [hh2.out]; have z2 := Lib.hid (hu2.block (fun h => h) z1.out); obtain ⟨e0, e1, e2, e3, e4, e5, e6, e7⟩ := seven z2.out)
    | (go_at_call 31; (with_reducible refine (D1.out _).use ?_); rintro v w3 ⟨rfl, hu3⟩; have z3 := Lib.hid (hu3.block (fun h => h) z2.out); obtain ⟨f0, f1, f2, f3, f4, f5, f6, f7⟩ := seven z3.out)
    | (go_at_call 32; (with_reducible refine (D2.out _).use ?_); rintro v w4 ⟨rfl, hu4⟩)
    | (go_at_call 33; (with_reducible refine (D3.out _).use ?_); rintro v w5 ⟨rfl, hu5⟩)
    | (go_at_call 34; (with_reducible refine (D4.out _).use ?_); rintro v w6 ⟨rfl, hu6⟩; have z6 := Lib.hid (hu6.block (fun h => h) (alloc_last _ _ w5.heap.size rfl)); obtain ⟨g0, g1, g2, g3, g4, g5, g6, g7⟩ := seven z6.out; have ja : w5.heap.size < w6.heap.size := blk_lt z6.out; have jb : ¬ w5.heap.size = w6.heap.size := (by omega); have jc : ¬ w6.heap.size = w5.heap.size := (by omega))
    | (go_at_call 28; (with_reducible refine (live_w _).use ?_); rintro v w7 ⟨rfl, hu7⟩)
    | (with_reducible refine wp_serial (by kernel_rfl) (by kernel_rfl) (by (repeat (first | (with_reducible apply NoBad.then) | (with_reducible apply NoBad.inBlock) | (with_reducible exact NoBad.rets))); done) ?_)
    | fail)
  all_goals go_returns
  all_goals exact ⟨rfl, (by (repeat (first | (with_reducible exact Upd.refl _ _) | (with_reducible assumption) | (with_reducible apply Upd.drew) | (with_reducible apply Upd.alloc) | (refine Upd0.tr ?_ (by with_reducible assumption)) | (refine Upd.setCell ?_ (fun h => absurd h (by first | exact Nat.lt_irrefl _ | (simp only []; omega))) _))); done)⟩
theorem rdataSoas_walk (s : So) (d : Bs) (w : World) : Calls Try.prog 9 #[s.val, .string ⟨d.toArray⟩] w (Rets fun r w' => r = .bool true ∧ Upd0 w w') := by
  by_cases hs : (s.main.length ≤ 5000 ∧ s.mail.length ≤ 5000) ∧ d.length ≤ 5000
  rotate_left
  · exact soas_long s.main s.mail s.se s.re s.rt s.ex s.mi d hs w
  have h1 : (decide (s.main.length ≤ 5000) && decide (s.mail.length ≤ 5000)) = true := by simp only [Bool.and_eq_true, decide_eq_true_eq]; exact hs.1
  have h2 : (decide (d.length ≤ 5000) && decide (([] : Bs).length ≤ 5000)) = true := by simp only [Bool.and_eq_true, decide_eq_true_eq]; exact ⟨hs.2, by simp⟩
  exact soas_short s.main s.mail s.se s.re s.rt s.ex s.mi d (psV d).main (psV d).mail (psV d).se (psV d).re (psV d).rt (psV d).ex (psV d).mi s.bytes s.code (psC d) h1 h2 (soa_w s (by omega) (by omega)) (rsoa_w s (by omega) (by omega)) (parseSoa_w d (by omega)) (rparseSoa_w d (by omega)) w
end Go.Proofs.Ytebnilkcpklnmaa
