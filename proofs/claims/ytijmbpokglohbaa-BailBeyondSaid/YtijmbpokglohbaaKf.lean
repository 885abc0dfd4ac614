/-
  The document's ParseHost and ParseSoa.
  The document's ParseSoa.
  The document's ParseSoa: both names there.
-/
import Derived.Test.YtijmbpokglohbaaRdH
import Derived.Test.YtijmbpokglohbaaKb
namespace Go.Proofs.Ytijmbpokglohbaa
open Go.RowKit
set_option linter.unusedSimpArgs false
set_option linter.unusedVariables false
theorem hostN_of {e : Bs} (h : hostOk e = true) : hostN e = e.take (e.length - 1) := by rw [hostN, if_pos h, List.dropLast_eq_take]
theorem hostOk_pos {e : Bs} (h : hostOk e = true) : 1 ≤ e.length := by
  cases e with
  | nil => cases h
  | cons x t => simp
theorem rparseHost_w (k : Int) (d : Bs) (hm : d.length ≤ 70000) (w : World) : Calls Try.prog 52 #[.int .i64 k, .string ⟨d.toArray⟩] w (Rets fun r w' => r = .tuple #[.string ⟨(phN k d).toArray⟩, .int .i64 (phC k d)] ∧ Upd0 w w') := by
  have h4 := aheadZ_or k
  rcases h4 with h | h
  · have hh := Lib.hid h
    clear h
    go_enter Try.func52, Try.ntmps52
    go_wp2_with (first
      | (with_reducible refine wp_serial (by kernel_rfl) (by kernel_rfl) (by repeat with_reducible (first | apply NoBad.then | apply NoBad.inBlock | apply NoBad.jump | exact NoBad.rets)) ?_)
      | (go_at_call 77; refine (rahead_w k _).use ?_; rintro v w1 ⟨rfl, hu1⟩; rw [hh.out])
      | fail)
    all_goals go_returns
    exact ⟨by simp [phN, phC, hh.out], (by repeat first | with_reducible (first | exact Upd.refl _ _ | assumption | apply Upd.drew | apply Upd.alloc) | refine Upd0.tr ?_ (by with_reducible assumption) | refine Upd.setCell ?_ (fun h => absurd h (by first | exact Nat.lt_irrefl _ | (simp only []; omega))) _)⟩
  obtain ⟨n, hn, hn6⟩ : ∃ n : Nat, aheadZ k = n ∧ n ≤ 6 := by
    rcases h with h | h | h
    · exact ⟨0, h, by omega⟩
    · exact ⟨2, h, by omega⟩
    · exact ⟨6, h, by omega⟩
  clear h
  have hh := Lib.hid hn
  clear hn
  rcases Nat.lt_or_ge d.length n with hlt | hlt
  · have hC := Lib.hid (show phC k d = 2 by rw [phC, hh.out, if_neg (by omega), if_pos (by omega)])
    go_enter Try.func52, Try.ntmps52
    go_wp2_with (first
      | (with_reducible refine wp_serial (by kernel_rfl) (by kernel_rfl) (by repeat with_reducible (first | apply NoBad.then | apply NoBad.inBlock | apply NoBad.jump | exact NoBad.rets)) ?_)
      | (go_at_call 77; refine (rahead_w k _).use ?_; rintro v w1 ⟨rfl, hu1⟩; rw [hh.out])
      | fail)
    all_goals go_returns
    all_goals exact ⟨by rw [phN, hC.out]; rfl, (by repeat first | with_reducible (first | exact Upd.refl _ _ | assumption | apply Upd.drew | apply Upd.alloc) | refine Upd0.tr ?_ (by with_reducible assumption) | refine Upd.setCell ?_ (fun h => absurd h (by first | exact Nat.lt_irrefl _ | (simp only []; omega))) _)⟩
  · have hC := Lib.hid (show phC k d = if hostOk (d.drop n) then 0 else 2 by rw [phC, hh.out, if_neg (by omega), if_neg (by omega)]; rfl)
    have hN := Lib.hid (show phN k d = if hostOk (d.drop n) then (d.drop n).dropLast else [] by rw [phN, hC.out, hh.out]; cases hostOk (d.drop n) <;> rfl)
    cases hok : hostOk (d.drop n)
    · have hokh := Lib.hid hok
      clear hok
      go_enter Try.func52, Try.ntmps52
      go_wp2_with (first
        | (with_reducible refine wp_serial (by kernel_rfl) (by kernel_rfl) (by repeat with_reducible (first | apply NoBad.then | apply NoBad.inBlock | apply NoBad.jump | exact NoBad.rets)) ?_)
        | (go_at_call 77; refine (rahead_w k _).use ?_; rintro v w1 ⟨rfl, hu1⟩; rw [hh.out])
        | (go_at_call 78; refine (isHost_w (d.drop n) (by simp; omega) _).use ?_; rintro v w2 ⟨rfl, hu2⟩; rw [hokh.out])
        | fail)
      all_goals go_returns
      all_goals exact ⟨by rw [hC.out, hN.out, hokh.out]; rfl, (by repeat first | with_reducible (first | exact Upd.refl _ _ | assumption | apply Upd.drew | apply Upd.alloc) | refine Upd0.tr ?_ (by with_reducible assumption) | refine Upd.setCell ?_ (fun h => absurd h (by first | exact Nat.lt_irrefl _ | (simp only []; omega))) _)⟩
    · have hp := hostOk_pos hok
      simp only [List.length_drop] at hp
      have hokh := Lib.hid hok
      have hcut := Lib.hid (show (d.drop n).dropLast = (d.take (d.length - 1)).drop n by
        rw [List.dropLast_eq_take, List.drop_take, List.length_drop]; congr 1; omega)
      clear hok
      go_enter Try.func52, Try.ntmps52
      go_wp2_with (first
        | (with_reducible refine wp_serial (by kernel_rfl) (by kernel_rfl) (by repeat with_reducible (first | apply NoBad.then | apply NoBad.inBlock | apply NoBad.jump | exact NoBad.rets)) ?_)
        | (go_at_call 77; refine (rahead_w k _).use ?_; rintro v w1 ⟨rfl, hu1⟩; rw [hh.out])
        | (go_at_call 78; refine (isHost_w (d.drop n) (by simp; omega) _).use ?_; rintro v w2 ⟨rfl, hu2⟩; rw [hokh.out])
        | fail)
      all_goals go_returns
      all_goals exact ⟨by rw [hC.out, hN.out, hokh.out]; simp [hcut.out], (by repeat first | with_reducible (first | exact Upd.refl _ _ | assumption | apply Upd.drew | apply Upd.alloc) | refine Upd0.tr ?_ (by with_reducible assumption) | refine Upd.setCell ?_ (fun h => absurd h (by first | exact Nat.lt_irrefl _ | (simp only []; omega))) _)⟩
end Go.Proofs.Ytijmbpokglohbaa

namespace Go.Proofs.Ytijmbpokglohbaa
open Go.RowKit
set_option linter.unusedSimpArgs false
set_option linter.unusedVariables false
theorem fir_yes' {d : Bs} (h : firB d = true) : ∃ n, 1 ≤ n ∧ n ≤ d.length ∧ firI d = n ∧ firR d = d.drop n ∧ firN d = d.take (n - 1) := by
  obtain ⟨i, h1, h2, h3, h4⟩ := fir_yes h
  exact ⟨i + 1, by omega, by omega, h2, h3, h4⟩
set_option maxRecDepth 100000 in
set_option maxHeartbeats 4000000 in
theorem rparseSoa_no (d : Bs) (hall : ¬ (firB d = true ∧ firB (firR d) = true)) (hd : d.length ≤ 70000) (w : World) : Calls Try.prog 99 #[.string ⟨d.toArray⟩] w (Rets fun r w' => r = .tuple #[(psV d).val, .int .i64 (psC d)] ∧ Upd0 w w') := by
  have tok1 : True := trivial
  have hno : psB d = false := by
    unfold psB
    cases h1 : firB d <;> cases h2 : firB (firR d) <;> simp_all
  have hfin := Lib.hid (show psV d = soZ ∧ psC d = 2 by rw [psV, psC, hno]; exact ⟨rfl, rfl⟩)
  clear hno
  cases hb1 : firB d
  · have hi := Lib.hid (fir_no hb1)
    clear hb1 hall
    go_enter Try.func99, Try.ntmps99
    go_wp2_with (first
      | (go_at_call 114; have _t := tok1; (with_reducible refine (rfirst_w d hd _).use ?_); rintro v w1 ⟨rfl, hu1⟩; rw [hi.out]; have z1 := Lib.hid (hu1.block (fun h => h) (alloc_last _ _ w.heap.size rfl)); obtain ⟨a0, a1, a2, a3, a4, a5, a6, a7⟩ := seven z1.out; clear tok1 _t)
      | (with_reducible refine wp_serial (by kernel_rfl) (by kernel_rfl) (by repeat with_reducible (first | apply NoBad.then | apply NoBad.inBlock | apply NoBad.jump | exact NoBad.rets)) ?_)
      | fail)
    have hz := seven_set z1.out (.string ⟨#[]⟩) (.string ⟨#[]⟩) (.int .i64 0) (.int .i64 0) (.int .i64 0) (.int .i64 0) (.int .i64 0)
    refine bodyPost_ret (v := .tuple #[.agg #[.string ⟨#[]⟩, .string ⟨#[]⟩, .int .i64 0, .int .i64 0, .int .i64 0, .int .i64 0, .int .i64 0], .int .i64 2]) (by exact res_so Try.results99 (by rfl) hz) rfl ?_
    exact ⟨by rw [hfin.out.1, hfin.out.2]; rfl, (by repeat first | with_reducible (first | exact Upd.refl _ _ | assumption | apply Upd.drew | apply Upd.alloc) | refine Upd0.tr ?_ (by with_reducible assumption) | refine Upd.setCell ?_ (fun h => absurd h (by first | exact Nat.lt_irrefl _ | (simp only []; omega))) _)⟩
  · have hb2 : firB (firR d) = false := by cases h : firB (firR d) <;> simp_all
    obtain ⟨n, hn1, hn2, hi1, hR, _⟩ := fir_yes' hb1
    rw [hR] at hb2
    have hi := Lib.hid hi1
    have hj := Lib.hid (fir_no hb2)
    clear hb1 hall hb2 hR hi1
    go_enter Try.func99, Try.ntmps99
    go_wp2_with (first
      | (go_at_call 114; have _t := tok1; (with_reducible refine (rfirst_w d hd _).use ?_); rintro v w1 ⟨rfl, hu1⟩; rw [hi.out]; have z1 := Lib.hid (hu1.block (fun h => h) (alloc_last _ _ w.heap.size rfl)); clear tok1 _t)
      | (go_at_call 114; (with_reducible refine (rfirst_w (d.drop n) (by simp; omega) _).use ?_); rintro v w2 ⟨rfl, hu2⟩; rw [hj.out]; have z2 := Lib.hid (hu2.block (fun h => h) z1.out); obtain ⟨a0, a1, a2, a3, a4, a5, a6, a7⟩ := seven z2.out)
      | (with_reducible refine wp_serial (by kernel_rfl) (by kernel_rfl) (by repeat with_reducible (first | apply NoBad.then | apply NoBad.inBlock | apply NoBad.jump | exact NoBad.rets)) ?_)
      | fail)
    have hz := seven_set z2.out (.string ⟨#[]⟩) (.string ⟨#[]⟩) (.int .i64 0) (.int .i64 0) (.int .i64 0) (.int .i64 0) (.int .i64 0)
    refine bodyPost_ret (v := .tuple #[.agg #[.string ⟨#[]⟩, .string ⟨#[]⟩, .int .i64 0, .int .i64 0, .int .i64 0, .int .i64 0, .int .i64 0], .int .i64 2]) (by exact res_so Try.results99 (by rfl) hz) rfl ?_
    exact ⟨by rw [hfin.out.1, hfin.out.2]; rfl, (by repeat first | with_reducible (first | exact Upd.refl _ _ | assumption | apply Upd.drew | apply Upd.alloc) | refine Upd0.tr ?_ (by with_reducible assumption) | refine Upd.setCell ?_ (fun h => absurd h (by first | exact Nat.lt_irrefl _ | (simp only []; omega))) _)⟩
end Go.Proofs.Ytijmbpokglohbaa

namespace Go.Proofs.Ytijmbpokglohbaa
open Go.RowKit
set_option linter.unusedSimpArgs false
set_option linter.unusedVariables false
set_option maxRecDepth 100000 in
set_option maxHeartbeats 4000000 in
theorem rparseSoa_no2 (d : Bs) (hb1 : firB d = true) (hb2 : firB (firR d) = true) (h20 : (firR (firR d)).length ≠ 20) (hd : d.length ≤ 70000) (w : World) : Calls Try.prog 99 #[.string ⟨d.toArray⟩] w (Rets fun r w' => r = .tuple #[(psV d).val, .int .i64 (psC d)] ∧ Upd0 w w') := by
    have tok1 : True := trivial
    have hno : psB d = false := by unfold psB; rw [hb1, hb2, decide_eq_false h20]; rfl
    have hfin := Lib.hid (show psV d = soZ ∧ psC d = 2 by rw [psV, psC, hno]; exact ⟨rfl, rfl⟩)
    clear hno
    obtain ⟨n, hn1, hn2, hi1, hR, _⟩ := fir_yes' hb1
    rw [hR] at hb2 h20
    obtain ⟨m, hm1, hm2, hj1, hS, _⟩ := fir_yes' hb2
    rw [hS] at h20
    simp only [List.length_drop] at hm2 h20
    have hi := Lib.hid hi1
    have hj := Lib.hid hj1
    have hne : ((d.length : Int) != (n : Int) + (m : Int) + 20) = true := by rw [bne_iff_ne]; omega
    have hm0 : ((m : Int) == 0) = false := by rw [beq_eq_false_iff_ne]; omega
    have hn0 : ((n : Int) == 0) = false := by rw [beq_eq_false_iff_ne]; omega
    clear hb1 hb2 hR hi1 hj1 hS
    go_enter Try.func99, Try.ntmps99
    go_wp2_with (first
      | (go_at_call 114; have _t := tok1; (with_reducible refine (rfirst_w d hd _).use ?_); rintro v w1 ⟨rfl, hu1⟩; rw [hi.out]; have z1 := Lib.hid (hu1.block (fun h => h) (alloc_last _ _ w.heap.size rfl)); clear tok1 _t)
      | (go_at_call 114; (with_reducible refine (rfirst_w (d.drop n) (by simp; omega) _).use ?_); rintro v w2 ⟨rfl, hu2⟩; rw [hj.out]; have z2 := Lib.hid (hu2.block (fun h => h) z1.out); obtain ⟨a0, a1, a2, a3, a4, a5, a6, a7⟩ := seven z2.out)
      | (with_reducible refine wp_serial (by kernel_rfl) (by kernel_rfl) (by repeat with_reducible (first | apply NoBad.then | apply NoBad.inBlock | apply NoBad.jump | exact NoBad.rets)) ?_)
      | fail)
    all_goals first
      | (exfalso; omega)
      | skip
    have hz := seven_set z2.out (.string ⟨#[]⟩) (.string ⟨#[]⟩) (.int .i64 0) (.int .i64 0) (.int .i64 0) (.int .i64 0) (.int .i64 0)
    refine bodyPost_ret (v := .tuple #[.agg #[.string ⟨#[]⟩, .string ⟨#[]⟩, .int .i64 0, .int .i64 0, .int .i64 0, .int .i64 0, .int .i64 0], .int .i64 2]) (by exact res_so Try.results99 (by rfl) hz) rfl ?_
    exact ⟨by rw [hfin.out.1, hfin.out.2]; rfl, (by repeat first | with_reducible (first | exact Upd.refl _ _ | assumption | apply Upd.drew | apply Upd.alloc) | refine Upd0.tr ?_ (by with_reducible assumption) | refine Upd.setCell ?_ (fun h => absurd h (by first | exact Nat.lt_irrefl _ | (simp only []; omega))) _)⟩
theorem seven_keep {w : World} {b n : Nat} (h : ¬ b = n) (v0 v1 v2 v3 v4 v5 v6 : Value) :
    (((((((w.setCell ⟨n, 0, none⟩ v0).setCell ⟨n, 1, none⟩ v1).setCell ⟨n, 2, none⟩ v2).setCell ⟨n, 3, none⟩ v3).setCell ⟨n, 4, none⟩ v4).setCell ⟨n, 5, none⟩ v5).setCell ⟨n, 6, none⟩ v6).heap[b]? = w.heap[b]? := by
  simp only [blk_set_other h]
theorem num_at (R : Bs) (hR : R.length = 20) (lo hi i : Nat) (h1 : lo = 4 * i) (h2 : hi = 4 * i + 4) (w : World) : Calls Try.prog 115 #[.string ⟨((R.take hi).drop lo).toArray⟩] w (Rets fun r w' => r = .int .i64 (at4 R i) ∧ Upd0 w w') := by
  have e : (R.take hi).drop lo = (R.drop (4 * i)).take 4 := by rw [List.drop_take, h1, h2]; congr 1; omega
  rw [e]
  exact number_w _ (by simp; omega) w
theorem num_lit0 (R : Bs) (hR : R.length = 20) (w : World) : Calls Try.prog 115 #[.string ⟨(R.take 4).toArray⟩] w (Rets fun r w' => r = .int .i64 (at4 R 0) ∧ Upd0 w w') := num_at R hR 0 4 0 rfl rfl w
theorem num_lit1 (R : Bs) (hR : R.length = 20) (w : World) : Calls Try.prog 115 #[.string ⟨((R.take 8).drop 4).toArray⟩] w (Rets fun r w' => r = .int .i64 (at4 R 1) ∧ Upd0 w w') := num_at R hR 4 8 1 rfl rfl w
theorem num_lit2 (R : Bs) (hR : R.length = 20) (w : World) : Calls Try.prog 115 #[.string ⟨((R.take 12).drop 8).toArray⟩] w (Rets fun r w' => r = .int .i64 (at4 R 2) ∧ Upd0 w w') := num_at R hR 8 12 2 rfl rfl w
theorem num_lit3 (R : Bs) (hR : R.length = 20) (w : World) : Calls Try.prog 115 #[.string ⟨((R.take 16).drop 12).toArray⟩] w (Rets fun r w' => r = .int .i64 (at4 R 3) ∧ Upd0 w w') := num_at R hR 12 16 3 rfl rfl w
theorem num_lit4 (R : Bs) (hR : R.length = 20) (w : World) : Calls Try.prog 115 #[.string ⟨((R.take 20).drop 16).toArray⟩] w (Rets fun r w' => r = .int .i64 (at4 R 4) ∧ Upd0 w w') := num_at R hR 16 20 4 rfl rfl w
end Go.Proofs.Ytijmbpokglohbaa
