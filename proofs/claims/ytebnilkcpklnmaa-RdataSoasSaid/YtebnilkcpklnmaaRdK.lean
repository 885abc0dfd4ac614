/-
  The document's ParseSoa: both names there.
-/
import Derived.Test.YtebnilkcpklnmaaRdJ
namespace Go.Proofs.Ytebnilkcpklnmaa
open Go.RowKit
set_option linter.unusedSimpArgs false
set_option linter.unusedVariables false
set_option maxRecDepth 100000 in
set_option maxHeartbeats 4000000 in
theorem rparseSoa_no2 (d : Bs) (hb1 : firB d = true) (hb2 : firB (firR d) = true) (h20 : (firR (firR d)).length ≠ 20) (hd : d.length ≤ 70000) (w : World) : Calls Try.prog 34 #[.string ⟨d.toArray⟩] w (Rets fun r w' => r = .tuple #[(psV d).val, .int .i64 (psC d)] ∧ Upd0 w w') := by
    have tok1 : True := trivial
    have hno : psB d = false := by unfold psB; rw [hb1, hb2, decide_eq_false h20]; rfl
    have hfin := Lib.hid (show psV d = soZ ∧ psC d = 2 by rw [psV, psC, hno]; exact ⟨rfl, rfl⟩)
    clear hno
    obtain ⟨n, hn1, hn2, hi1, hR, _⟩ := fir_yes' hb1
    rw [hR] at hb2 h20
    obtain ⟨m, hm1, hm2, hj1, hS, _⟩ := fir_yes' hb2
    rw [hS] at h20
    simp only [List.length_drop] at hm2 h20
    have hi := Lib.hid hi1
    have hj := Lib.hid hj1
    have hne : ((d.length : Int) != (n : Int) + (m : Int) + 20) = true := by rw [bne_iff_ne]; omega
    have hm0 : ((m : Int) == 0) = false := by rw [beq_eq_false_iff_ne]; omega
    have hn0 : ((n : Int) == 0) = false := by rw [beq_eq_false_iff_ne]; omega
    clear hb1 hb2 hR hi1 hj1 hS
    go_enter Try.func34, Try.ntmps34
    go_wp2_with (first
      | (go_at_call 52; have _t := tok1; (with_reducible refine (rfirst_w d hd _).use ?_); rintro v w1 ⟨rfl, hu1⟩; rw [hi.out]; have z1 := Lib.hid (hu1.block (fun h => h) (alloc_last _ _ w.heap.size rfl)); clear tok1 _t)
      | (go_at_call 52; (with_reducible refine (rfirst_w (d.drop n) (by simp; omega) _).use ?_); rintro v w2 ⟨rfl, hu2⟩; rw [hj.out]; have z2 := Lib.hid (hu2.block (fun h => h) z1.out); obtain ⟨a0, a1, a2, a3, a4, a5, a6, a7⟩ := seven z2.out)
      | (with_reducible refine wp_serial (by kernel_rfl) (by kernel_rfl) (by (repeat (first | (with_reducible apply NoBad.then) | (with_reducible apply NoBad.inBlock) | (with_reducible exact NoBad.rets))); done) ?_)
      | fail)
    all_goals first
      | (exfalso; omega)
      | skip
    have hz := seven_set z2.out (.string ⟨#[]⟩) (.string ⟨#[]⟩) (.int .i64 0) (.int .i64 0) (.int .i64 0) (.int .i64 0) (.int .i64 0)
    refine bodyPost_ret (v := .tuple #[.agg #[.string ⟨#[]⟩, .string ⟨#[]⟩, .int .i64 0, .int .i64 0, .int .i64 0, .int .i64 0, .int .i64 0], .int .i64 2]) (by exact res_so Try.results34 (by rfl) hz) rfl ?_
    exact ⟨by rw [hfin.out.1, hfin.out.2]; rfl, (by (repeat (first | (with_reducible exact Upd.refl _ _) | (with_reducible assumption) | (with_reducible apply Upd.drew) | (with_reducible apply Upd.alloc) | (refine Upd0.tr ?_ (by with_reducible assumption)) | (refine Upd.setCell ?_ (fun h => absurd h (by first | exact Nat.lt_irrefl _ | (simp only []; omega))) _))); done)⟩
theorem seven_keep {w : World} {b n : Nat} (h : ¬ b = n) (v0 v1 v2 v3 v4 v5 v6 : Value) :
    (((((((w.setCell ⟨n, 0, none⟩ v0).setCell ⟨n, 1, none⟩ v1).setCell ⟨n, 2, none⟩ v2).setCell ⟨n, 3, none⟩ v3).setCell ⟨n, 4, none⟩ v4).setCell ⟨n, 5, none⟩ v5).setCell ⟨n, 6, none⟩ v6).heap[b]? = w.heap[b]? := by
  simp only [blk_set_other h]
theorem num_at (R : Bs) (hR : R.length = 20) (lo hi i : Nat) (h1 : lo = 4 * i) (h2 : hi = 4 * i + 4) (w : World) : Calls Try.prog 53 #[.string ⟨((R.take hi).drop lo).toArray⟩] w (Rets fun r w' => r = .int .i64 (at4 R i) ∧ Upd0 w w') := by
  have e : (R.take hi).drop lo = (R.drop (4 * i)).take 4 := by rw [List.drop_take, h1, h2]; congr 1; omega
  rw [e]
  exact number_w _ (by simp; omega) w
theorem num_lit0 (R : Bs) (hR : R.length = 20) (w : World) : Calls Try.prog 53 #[.string ⟨(R.take 4).toArray⟩] w (Rets fun r w' => r = .int .i64 (at4 R 0) ∧ Upd0 w w') := num_at R hR 0 4 0 rfl rfl w
theorem num_lit1 (R : Bs) (hR : R.length = 20) (w : World) : Calls Try.prog 53 #[.string ⟨((R.take 8).drop 4).toArray⟩] w (Rets fun r w' => r = .int .i64 (at4 R 1) ∧ Upd0 w w') := num_at R hR 4 8 1 rfl rfl w
theorem num_lit2 (R : Bs) (hR : R.length = 20) (w : World) : Calls Try.prog 53 #[.string ⟨((R.take 12).drop 8).toArray⟩] w (Rets fun r w' => r = .int .i64 (at4 R 2) ∧ Upd0 w w') := num_at R hR 8 12 2 rfl rfl w
theorem num_lit3 (R : Bs) (hR : R.length = 20) (w : World) : Calls Try.prog 53 #[.string ⟨((R.take 16).drop 12).toArray⟩] w (Rets fun r w' => r = .int .i64 (at4 R 3) ∧ Upd0 w w') := num_at R hR 12 16 3 rfl rfl w
theorem num_lit4 (R : Bs) (hR : R.length = 20) (w : World) : Calls Try.prog 53 #[.string ⟨((R.take 20).drop 16).toArray⟩] w (Rets fun r w' => r = .int .i64 (at4 R 4) ∧ Upd0 w w') := num_at R hR 16 20 4 rfl rfl w
end Go.Proofs.Ytebnilkcpklnmaa
