/-
  The document's Judge.
-/
import Derived.Test.YtijmbpokglohbaaBaGa
import Derived.Test.YtijmbpokglohbaaBaGb
namespace Go.Proofs.Ytijmbpokglohbaa
open Go.RowKit
set_option linter.unusedSimpArgs false
set_option linter.unusedVariables false
set_option maxRecDepth 100000 in
set_option maxHeartbeats 16000000 in
theorem rjudge_w (n : Bs) (k : Int) (m : Msg) (q a ns x : Option Addr) (cq ca cn cx : Nat) (z : Bs) (w : World) (h : MsR w m q a ns x) (hn : n.length ≤ 5000) (hz : z.length ≤ 5000) (ha : rcsh m.an) (hs : rcsh m.ns) :
    Calls Try.prog 20 #[.agg #[.string ⟨n.toArray⟩, .int .i64 k], m.val q a ns x cq ca cn cx, .string ⟨z.toArray⟩] w (Rets fun r w' => r = .tuple #[.int .i64 (judgeR n k m.tr m.rc m.an m.ns z).1, .string ⟨(judgeR n k m.tr m.rc m.an m.ns z).2.toArray⟩] ∧ Upd0 w w') := by
  rw [judge_rules]
  have hU := Lib.hid (runder_w n z (by omega) (by omega))
  have hC := Lib.hid (fun w => rcheck_any n (by unfold maxLen; omega) w)
  have hWa := Lib.hid (fun (w' : World) (u : Upd0 w w') => rwithin_bw a ca m.an z w' (h.an.up u) ha.1 ha.2 hz)
  have hWn := Lib.hid (fun (w' : World) (u : Upd0 w w') => rwithin_bw ns cn m.ns z w' (h.ns.up u) hs.1 hs.2 hz)
  have hsa := Lib.hid (rcsh_wit (z := z) ha).2
  have hsn := Lib.hid (rcsh_wit (z := z) hs).2
  have hAl := (rcsh_wit (z := z) ha).1
  have hNl := (rcsh_wit (z := z) hs).1
  obtain ⟨id, re, op, au, tr, wa, av, rc, qs, an, nsl, ex, sz⟩ := m
  simp only [Msg.val] at hWa hWn hsa hsn hAl hNl ⊢
  obtain ⟨A, hA⟩ : ∃ A, witL an z = A := ⟨_, rfl⟩
  obtain ⟨N, hN⟩ : ∃ N, witL nsl z = N := ⟨_, rfl⟩
  rw [hA] at hWa hsa hAl ⊢
  rw [hN] at hWn hsn hNl ⊢
  clear hA hN h ha hs
  have hFn := Lib.hid (rfold_w n (by omega))
  cases hu : undB n z with
  | false =>
    rw [hu] at hU
    rw [Bool.false_and]
    have hcase : checkC n = 0 ∨ ∃ c, checkC n = c ∧ (c != 0) = true := by
      rcases checkC_or n with h | h
      · exact .inl h
      · exact .inr ⟨1, h, rfl⟩
    clear hu
    rcases hcase with hc | ⟨c, hc, hc1⟩
    all_goals
      rw [hc] at hC
      clear hc
      go_enter Try.func20, Try.ntmps20
      go_wp2_with (first
        | (go_at_call 29; (with_reducible refine (hC.out _).use ?_); rintro v w1 ⟨rfl, hu1⟩; have bq := Lib.hid (show JQ w1 w.heap.size n k from hu1.block (fun h => h) (blk_alloc (alloc_last _ _ _ rfl))); obtain ⟨q0, q1⟩ := cell2w (show w1.heap[w.heap.size]? = _ from bq.out))
        | (go_at_call 26; (with_reducible refine (hU.out _).use ?_); rintro v w2 ⟨rfl, hu2⟩)
        | (with_reducible refine wp_serial (by kernel_rfl) (by kernel_rfl) (by (repeat (first | (with_reducible apply NoBad.then) | (with_reducible apply NoBad.inBlock) | (with_reducible apply NoBad.jump) | (with_reducible exact NoBad.rets))); done) ?_) | fail)
      all_goals go_returns
      all_goals exact ⟨rfl, (by (repeat (first | (with_reducible exact Upd.refl _ _) | (with_reducible assumption) | (with_reducible apply Upd.drew) | (with_reducible apply Upd.alloc) | (refine Upd0.tr ?_ (by with_reducible assumption)) | (refine Upd.setCell ?_ (fun h => absurd h (by first | exact Nat.lt_irrefl _ | (simp only []; omega))) _))); done)⟩
  | true =>
    have hc : checkC n = 0 := by rw [checkC, (undB_iff.1 hu).1]; rfl
    rw [hu] at hU
    rw [hc] at hC
    clear hu hc
    by_cases hok : (rc = 0 ∨ rc = 3) ∧ tr = false
    · obtain ⟨hrc, rfl⟩ := hok
      have hcond : (true && (!false && (decide (rc = 0) || decide (rc = 3)))) = true := by rcases hrc with h | h <;> simp [h]
      rw [hcond, if_pos rfl]
      have hrc2 : ((rc != 0) = false ∧ rc = 0) ∨ ((rc != 0) = true ∧ (rc != 3) = false ∧ rc = 3) := by rcases hrc with h | h <;> simp [h]
      clear hcond hrc
      obtain ⟨tg, htg⟩ : ∃ tg, fst0 (jAns n k A) (fst0 (jAli n A) (fst0 (jDen n rc N) (jRef n z rc N))) = tg := ⟨_, rfl⟩
      rw [htg]
      have hT := Lib.hid htg
      clear htg
      have tk1 : True := trivial
      rcases hrc2 with ⟨h1, h2⟩ | ⟨h1, h3, h2⟩
      · exact rjudge_m0 n k id re op au wa av rc qs an nsl ex sz q a ns x cq ca cn cx z w A N tg hn hz hU hC hWa hWn hsa hsn hAl hNl hFn hT h1 (Lib.hid h2) (by rw [h2]; rfl) (by rw [h2]; rfl)
      · exact rjudge_m3 n k id re op au wa av rc qs an nsl ex sz q a ns x cq ca cn cx z w A N tg hn hz hU hC hWa hWn hsa hsn hAl hNl hFn hT h1 h3 (Lib.hid h2) (by rw [h2]; rfl) (by rw [h2]; rfl)
    · have hcond : (true && (!tr && (decide (rc = 0) || decide (rc = 3)))) = false := by
        cases tr
        · simp at hok ⊢; omega
        · rfl
      rw [hcond]
      have hways : ((rc != 0) = true ∧ (rc != 3) = true) ∨ ((rc != 0) = false ∧ tr = true) ∨ ((rc != 0) = true ∧ (rc != 3) = false ∧ tr = true) := by
        by_cases h0 : rc = 0
        · subst h0; cases tr <;> simp at hok ⊢
        · by_cases h3 : rc = 3
          · subst h3; cases tr <;> simp at hok ⊢
          · exact .inl ⟨bne_iff_ne.2 h0, bne_iff_ne.2 h3⟩
      clear hcond hok
      rcases hways with ⟨h0, h3⟩ | ⟨h0, rfl⟩ | ⟨h0, h3, rfl⟩
      all_goals
        go_enter Try.func20, Try.ntmps20
        go_wp2_with (first
          | (go_at_call 29; (with_reducible refine (hC.out _).use ?_); rintro v w1 ⟨rfl, hu1⟩; have bq := Lib.hid (show JQ w1 w.heap.size n k from hu1.block (fun h => h) (blk_alloc (alloc_last _ _ _ rfl))); obtain ⟨q0, q1⟩ := cell2w (show w1.heap[w.heap.size]? = _ from bq.out); have bm := Lib.hid (show w1.heap[w.heap.size + 1]? = some (.cells #[.int .i64 id, .bool re, .int .i64 op, .bool au, .bool _, .bool wa, .bool av, .int .i64 rc, .slice q qs.length cq, .slice a an.length ca, .slice ns nsl.length cn, .slice x ex.length cx, .int .i64 sz] 25 (0, 0)) from hu1.block (fun h => h) (alloc_last _ _ _ (by simp))))
          | (go_at_call 26; (with_reducible refine (hU.out _).use ?_); rintro v w2 ⟨rfl, hu2⟩; have bm2 := Lib.hid (hu2.block (fun h => h) bm.out); obtain ⟨n0, n1, n2, n3, n4, n5, n6, n7, n8, n9, nA, nB, nC⟩ := cell13b bm2.out)
          | (with_reducible refine wp_serial (by kernel_rfl) (by kernel_rfl) (by (repeat (first | (with_reducible apply NoBad.then) | (with_reducible apply NoBad.inBlock) | (with_reducible apply NoBad.jump) | (with_reducible exact NoBad.rets))); done) ?_) | fail)
        all_goals go_returns
        all_goals exact ⟨rfl, (by (repeat (first | (with_reducible exact Upd.refl _ _) | (with_reducible assumption) | (with_reducible apply Upd.drew) | (with_reducible apply Upd.alloc) | (refine Upd0.tr ?_ (by with_reducible assumption)) | (refine Upd.setCell ?_ (fun h => absurd h (by first | exact Nat.lt_irrefl _ | (simp only []; omega))) _))); done)⟩
end Go.Proofs.Ytijmbpokglohbaa
