/-
  Few, and Check: the program's and the document's.
-/
import Derived.Test.YtijmbpokglohbaaKh
namespace Go.Proofs.Ytijmbpokglohbaa
open Go.RowKit Go.Maps
set_option linter.unusedSimpArgs false
set_option linter.unusedVariables false
variable {B : Nat}
set_option maxRecDepth 100000 in
set_option maxHeartbeats 4000000 in
theorem few_w (m : Msg) (q a n x : Option Addr) (cq ca cn cx : Nat) (w : World) (h : MsR w m q a n x) (hl : m.qs.length ≤ maxLen ∧ m.an.length ≤ maxLen ∧ m.ns.length ≤ maxLen ∧ m.ex.length ≤ maxLen) :
    Calls Try.prog 15 #[m.val q a n x cq ca cn cx] w (Rets fun r w' => r = .bool (fewB m) ∧ Upd0 w w') := by
  have hh := Lib.hid h
  clear h
  obtain ⟨l1, l2, l3, l4⟩ := hl
  have hSa := Lib.hid (fun (w' : World) (k : Upd0 w w') => short_w a ca m.an w' (hh.out.an.up k) l2)
  have hSn := Lib.hid (fun (w' : World) (k : Upd0 w w') => short_w n cn m.ns w' (hh.out.ns.up k) l3)
  have hSx := Lib.hid (fun (w' : World) (k : Upd0 w w') => short_w x cx m.ex w' (hh.out.ex.up k) l4)
  simp only [fewB]
  obtain ⟨sa, hsa⟩ : ∃ b, shB m.an = b := ⟨_, rfl⟩
  obtain ⟨sn, hsn⟩ : ∃ b, shB m.ns = b := ⟨_, rfl⟩
  obtain ⟨sx, hsx⟩ : ∃ b, shB m.ex = b := ⟨_, rfl⟩
  rw [hsa] at hSa ⊢
  rw [hsn] at hSn ⊢
  rw [hsx] at hSx ⊢
  obtain ⟨id, re, op, au, tr, wa, av, rc, qs, an, ns, ex, sz⟩ := m
  simp only [Msg.val, maxLen] at *
  by_cases h12 : 12 < qs.length
  · have h12' : (12 : Int) < qs.length := by omega
    go_enter Try.func15, Try.ntmps15
    go_wp2_with (first | (with_reducible refine wp_serial (by kernel_rfl) (by kernel_rfl) (by repeat with_reducible (first | apply NoBad.then | apply NoBad.inBlock | apply NoBad.jump | exact NoBad.rets)) ?_) | fail)
    all_goals go_returns
    all_goals exact ⟨by rw [decide_eq_false (by omega)]; simp, (by repeat first | with_reducible (first | exact Upd.refl _ _ | assumption | apply Upd.drew | apply Upd.alloc) | refine Upd0.tr ?_ (by with_reducible assumption) | refine Upd.setCell ?_ (fun h => absurd h (by first | exact Nat.lt_irrefl _ | (simp only []; omega))) _)⟩
  have h12' : ¬ (12 : Int) < qs.length := by omega
  go_enter Try.func15, Try.ntmps15
  go_wp2_with (first | (with_reducible refine wp_serial (by kernel_rfl) (by kernel_rfl) (by repeat with_reducible (first | apply NoBad.then | apply NoBad.inBlock | apply NoBad.jump | exact NoBad.rets)) ?_) | fail)
  go_loopw [3] (fun jj wr => ∃ j : Nat, j ≤ qs.length ∧ jj = .int .i64 j ∧ Upd0 w wr ∧ wr.heap[w.heap.size]? = some (.cells #[.int .i64 id, .bool re, .int .i64 op, .bool au, .bool tr, .bool wa, .bool av, .int .i64 rc, .slice q qs.length cq, .slice a an.length ca, .slice n ns.length cn, .slice x ex.length cx, .int .i64 sz] 25 (0, 0)) ∧ Hid ((qs.take j).all (fun q => decide (q.nm.length ≤ 300)) = true)) (fun jj _ => qs.length - (intOf jj).toNat)
  case atStart => exact ⟨0, Nat.zero_le _, rfl, (by repeat first | with_reducible (first | exact Upd.refl _ _ | assumption | apply Upd.drew | apply Upd.alloc) | refine Upd0.tr ?_ (by with_reducible assumption) | refine Upd.setCell ?_ (fun h => absurd h (by first | exact Nat.lt_irrefl _ | (simp only []; omega))) _), alloc_last _ _ _ rfl, Lib.hid rfl⟩
  case round =>
    obtain ⟨j, hj, rfl, hu, hb, hno⟩ := hrel
    obtain ⟨m0, m1, m2, m3, m4, m5, m6, m7, m8, m9, mA, mB, mC⟩ := cell13w hb
    have hbh := Lib.hid hb
    have hsz := blk_lt hb
    clear hb
    by_cases hlt : j < qs.length
    · obtain ⟨y, hx⟩ : ∃ x, qs[j]? = some x := ⟨qs[j], List.getElem?_eq_getElem hlt⟩
      obtain ⟨g, o, rfl, hg, e0, e1⟩ := hh.out.qs.some hx
      have hgw : g < wr.heap.size := Nat.lt_of_lt_of_le hg hu.size
      have d0 := hu.cell (fun h => h) e0
      have hxh := Lib.hid hx
      clear hx e0 e1
      by_cases h1 : 300 < y.nm.length
      · have hf := Lib.hid (all_no (p := fun q : Qn => decide (q.nm.length ≤ 300)) hxh.out (decide_eq_false (Nat.not_le.2 h1)))
        have h1' : (300 : Int) < y.nm.length := by omega
        go_wp2_with (first | (with_reducible refine wp_serial (by kernel_rfl) (by kernel_rfl) (by repeat with_reducible (first | apply NoBad.then | apply NoBad.inBlock | apply NoBad.jump | exact NoBad.rets)) ?_) | fail)
        all_goals go_returns
        all_goals exact ⟨by rw [hf.out]; simp, (by repeat first | with_reducible (first | exact Upd.refl _ _ | assumption | apply Upd.drew | apply Upd.alloc) | refine Upd0.tr ?_ (by with_reducible assumption) | refine Upd.setCell ?_ (fun h => absurd h (by first | exact Nat.lt_irrefl _ | (simp only []; omega))) _)⟩
      · have hf := Lib.hid (all_take (p := fun q : Qn => decide (q.nm.length ≤ 300)) hno.out hxh.out (decide_eq_true (Nat.not_lt.1 h1)))
        have h1' : ¬ (300 : Int) < y.nm.length := by omega
        go_wp2_with (first | (with_reducible refine wp_serial (by kernel_rfl) (by kernel_rfl) (by repeat with_reducible (first | apply NoBad.then | apply NoBad.inBlock | apply NoBad.jump | exact NoBad.rets)) ?_) | fail)
        go_roundw
        case rel => exact ⟨j + 1, by omega, by go_num, hu, hbh.out, hf⟩
        case measure => simp [intOf]; omega
    · have hf := Lib.hid (all_end hno.out (by omega))
      have hd := Lib.hid (show decide (qs.length ≤ 12) = true from decide_eq_true (by omega))
      cases sa
      all_goals cases sn
      all_goals cases sx
      all_goals
        go_wp2_with (first
          | (go_at_call 24; (with_reducible refine (hSa.out _ (by repeat first | with_reducible (first | exact Upd.refl _ _ | assumption | apply Upd.drew | apply Upd.alloc) | refine Upd0.tr ?_ (by with_reducible assumption) | refine Upd.setCell ?_ (fun h => absurd h (by first | exact Nat.lt_irrefl _ | (simp only []; omega))) _)).use ?_); rintro v w1 ⟨rfl, hu1⟩; have bn1 := Lib.hid (show w1.heap[w.heap.size]? = some (.cells #[.int .i64 id, .bool re, .int .i64 op, .bool au, .bool tr, .bool wa, .bool av, .int .i64 rc, .slice q qs.length cq, .slice a an.length ca, .slice n ns.length cn, .slice x ex.length cx, .int .i64 sz] 25 (0, 0)) from hu1.block (fun h => h) hbh.out); obtain ⟨n10, n11, n12, n13, n14, n15, n16, n17, n18, n19, n110, n111, n112⟩ := cell13w bn1.out; have hln1 := blk_lt bn1.out; have nen1 : ¬ w.heap.size = w1.heap.size := (by omega); have nfn1 : ¬ w1.heap.size = w.heap.size := (by omega))
          | (go_at_call 24; (with_reducible refine (hSn.out _ (by repeat first | with_reducible (first | exact Upd.refl _ _ | assumption | apply Upd.drew | apply Upd.alloc) | refine Upd0.tr ?_ (by with_reducible assumption) | refine Upd.setCell ?_ (fun h => absurd h (by first | exact Nat.lt_irrefl _ | (simp only []; omega))) _)).use ?_); rintro v w2 ⟨rfl, hu2⟩; have bn2 := Lib.hid (show w2.heap[w.heap.size]? = some (.cells #[.int .i64 id, .bool re, .int .i64 op, .bool au, .bool tr, .bool wa, .bool av, .int .i64 rc, .slice q qs.length cq, .slice a an.length ca, .slice n ns.length cn, .slice x ex.length cx, .int .i64 sz] 25 (0, 0)) from hu2.block (fun h => h) (by first | exact bn1.out | exact blk_alloc bn1.out | exact blk_alloc (blk_alloc bn1.out) | exact blk_alloc (blk_alloc (blk_alloc bn1.out)))); obtain ⟨n20, n21, n22, n23, n24, n25, n26, n27, n28, n29, n210, n211, n212⟩ := cell13w bn2.out; have hln2 := blk_lt bn2.out; have nen2 : ¬ w.heap.size = w2.heap.size := (by omega); have nfn2 : ¬ w2.heap.size = w.heap.size := (by omega))
          | (go_at_call 24; (with_reducible refine (hSx.out _ (by repeat first | with_reducible (first | exact Upd.refl _ _ | assumption | apply Upd.drew | apply Upd.alloc) | refine Upd0.tr ?_ (by with_reducible assumption) | refine Upd.setCell ?_ (fun h => absurd h (by first | exact Nat.lt_irrefl _ | (simp only []; omega))) _)).use ?_); rintro v w3 ⟨rfl, hu3⟩)
          | (with_reducible refine wp_serial (by kernel_rfl) (by kernel_rfl) (by repeat with_reducible (first | apply NoBad.then | apply NoBad.inBlock | apply NoBad.jump | exact NoBad.rets)) ?_) | fail)
        all_goals go_returns
        all_goals exact ⟨by rw [hf.out, hd.out]; rfl, (by repeat first | with_reducible (first | exact Upd.refl _ _ | assumption | apply Upd.drew | apply Upd.alloc) | refine Upd0.tr ?_ (by with_reducible assumption) | refine Upd.setCell ?_ (fun h => absurd h (by first | exact Nat.lt_irrefl _ | (simp only []; omega))) _)⟩
end Go.Proofs.Ytijmbpokglohbaa
