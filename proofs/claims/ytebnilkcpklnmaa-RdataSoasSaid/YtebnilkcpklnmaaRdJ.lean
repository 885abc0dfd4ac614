/-
  The document's ParseSoa.
-/
import Derived.Test.YtebnilkcpklnmaaRdI
namespace Go.Proofs.Ytebnilkcpklnmaa
open Go.RowKit
set_option linter.unusedSimpArgs false
set_option linter.unusedVariables false
theorem fir_yes' {d : Bs} (h : firB d = true) : ∃ n, 1 ≤ n ∧ n ≤ d.length ∧ firI d = n ∧ firR d = d.drop n ∧ firN d = d.take (n - 1) := by
  obtain ⟨i, h1, h2, h3, h4⟩ := fir_yes h
  exact ⟨i + 1, by omega, by omega, h2, h3, h4⟩
set_option maxRecDepth 100000 in
set_option maxHeartbeats 4000000 in
theorem rparseSoa_no (d : Bs) (hall : ¬ (firB d = true ∧ firB (firR d) = true)) (hd : d.length ≤ 70000) (w : World) : Calls Try.prog 34 #[.string ⟨d.toArray⟩] w (Rets fun r w' => r = .tuple #[(psV d).val, .int .i64 (psC d)] ∧ Upd0 w w') := by
  have tok1 : True := trivial
  have hno : psB d = false := by
    unfold psB
    cases h1 : firB d <;> cases h2 : firB (firR d) <;> simp_all
  have hfin := Lib.hid (show psV d = soZ ∧ psC d = 2 by rw [psV, psC, hno]; exact ⟨rfl, rfl⟩)
  clear hno
  cases hb1 : firB d
  · have hi := Lib.hid (fir_no hb1)
    clear hb1 hall
    go_enter Try.func34, Try.ntmps34
    go_wp2_with (first
      | (go_at_call 52; have _t := tok1; (with_reducible refine (rfirst_w d hd _).use ?_); rintro v w1 ⟨rfl, hu1⟩; rw [hi.out]; have z1 := Lib.hid (hu1.block (fun h => h) (alloc_last _ _ w.heap.size rfl)); obtain ⟨a0, a1, a2, a3, a4, a5, a6, a7⟩ := seven z1.out; clear tok1 _t)
      | (with_reducible refine wp_serial (by kernel_rfl) (by kernel_rfl) (by (repeat (first | (with_reducible apply NoBad.then) | (with_reducible apply NoBad.inBlock) | (with_reducible exact NoBad.rets))); done) ?_)
      | fail)
    have hz := seven_set z1.out (.string ⟨#[]⟩) (.string ⟨#[]⟩) (.int .i64 0) (.int .i64 0) (.int .i64 0) (.int .i64 0) (.int .i64 0)
    refine bodyPost_ret (v := .tuple #[.agg #[.string ⟨#[]⟩, .string ⟨#[]⟩, .int .i64 0, .int .i64 0, .int .i64 0, .int .i64 0, .int .i64 0], .int .i64 2]) (by exact res_so Try.results34 (by rfl) hz) rfl ?_
    exact ⟨by rw [hfin.out.1, hfin.out.2]; rfl, (by (repeat (first | (with_reducible exact Upd.refl _ _) | (with_reducible assumption) | (with_reducible apply Upd.drew) | (with_reducible apply Upd.alloc) | (refine Upd0.tr ?_ (by with_reducible assumption)) | (refine Upd.setCell ?_ (fun h => absurd h (by first | exact Nat.lt_irrefl _ | (simp only []; omega))) _))); done)⟩
  · have hb2 : firB (firR d) = false := by cases h : firB (firR d) <;> simp_all
    obtain ⟨n, hn1, hn2, hi1, hR, _⟩ := fir_yes' hb1
    rw [hR] at hb2
    have hi := Lib.hid hi1
    have hj := Lib.hid (fir_no hb2)
    clear hb1 hall hb2 hR hi1
    go_enter Try.func34, Try.ntmps34
    go_wp2_with (first
      | (go_at_call 52; have _t := tok1; (with_reducible refine (rfirst_w d hd _).use ?_); rintro v w1 ⟨rfl, hu1⟩; rw [hi.out]; have z1 := Lib.hid (hu1.block (fun h => h) (alloc_last _ _ w.heap.size rfl)); clear tok1 _t)
      | (go_at_call 52; (with_reducible refine (rfirst_w (d.drop n) (by simp; omega) _).use ?_); rintro v w2 ⟨rfl, hu2⟩; rw [hj.out]; have z2 := Lib.hid (hu2.block (fun h => h) z1.out); obtain ⟨a0, a1, a2, a3, a4, a5, a6, a7⟩ := seven z2.out)
      | (with_reducible refine wp_serial (by kernel_rfl) (by kernel_rfl) (by (repeat (first | (with_reducible apply NoBad.then) | (with_reducible apply NoBad.inBlock) | (with_reducible exact NoBad.rets))); done) ?_)
      | fail)
    have hz := seven_set z2.out (.string ⟨#[]⟩) (.string ⟨#[]⟩) (.int .i64 0) (.int .i64 0) (.int .i64 0) (.int .i64 0) (.int .i64 0)
    refine bodyPost_ret (v := .tuple #[.agg #[.string ⟨#[]⟩, .string ⟨#[]⟩, .int .i64 0, .int .i64 0, .int .i64 0, .int .i64 0, .int .i64 0], .int .i64 2]) (by exact res_so Try.results34 (by rfl) hz) rfl ?_
    exact ⟨by rw [hfin.out.1, hfin.out.2]; rfl, (by (repeat (first | (with_reducible exact Upd.refl _ _) | (with_reducible assumption) | (with_reducible apply Upd.drew) | (with_reducible apply Upd.alloc) | (refine Upd0.tr ?_ (by with_reducible assumption)) | (refine Upd.setCell ?_ (fun h => absurd h (by first | exact Nat.lt_irrefl _ | (simp only []; omega))) _))); done)⟩
end Go.Proofs.Ytebnilkcpklnmaa
