/-
  The document's Same, of messages that are the same.
-/
import Derived.Test.YtgdejgfmhndbhaaKh
namespace Go.Proofs.Ytgdejgfmhndbhaa
open Go.RowKit
set_option linter.unusedSimpArgs false
set_option linter.unusedVariables false
structure Bm2 (W : World) (B : Nat) (c1 c2 : Array Value) (t1 t2 : TypeId) : Prop where
  a : W.heap[B]? = some (.cells c1 t1 (0, 0))
  b : W.heap[B + 1]? = some (.cells c2 t2 (0, 0))
theorem Bm2.up {W W' : World} {B : Nat} {c1 c2 : Array Value} {t1 t2 : TypeId} (h : Bm2 W B c1 c2 t1 t2) (k : Upd0 W W') : Bm2 W' B c1 c2 t1 t2 := ⟨k.block (fun h => h) h.a, k.block (fun h => h) h.b⟩
theorem bm2_new {w : World} {c1 c2 : Array Value} {t1 t2 : TypeId} : Bm2 ((w.alloc (.cells c1 t1 (0, 0))).alloc (.cells c2 t2 (0, 0))) w.heap.size c1 c2 t1 t2 := ⟨blk_alloc (alloc_last _ _ _ rfl), alloc_last _ _ _ (by simp)⟩
set_option maxRecDepth 100000 in
set_option maxHeartbeats 4000000 in
theorem rsameM_w (m : Msg) (q a n x q2 a2 n2 x2 : Option Addr) (cq ca cn cx cq2 ca2 cn2 cx2 : Nat) (w : World) (h : MsR w m q a n x) (h2 : MsR w m q2 a2 n2 x2) (hm : Mid m) :
    Calls Try.prog 22 #[m.val q a n x cq ca cn cx, m.val q2 a2 n2 x2 cq2 ca2 cn2 cx2] w (Rets fun r w' => r = .bool true ∧ Upd0 w w') := by
  have hq := Lib.hid h.qs
  have hq2 := Lib.hid h2.qs
  have hS1 := Lib.hid (fun (w' : World) (k : Upd0 w w') => rsameR_w a a2 ca ca2 m.an w' (h.an.up k) (h2.an.up k) hm.an.1)
  have hS2 := Lib.hid (fun (w' : World) (k : Upd0 w w') => rsameR_w n n2 cn cn2 m.ns w' (h.ns.up k) (h2.ns.up k) hm.ns.1)
  have hS3 := Lib.hid (fun (w' : World) (k : Upd0 w w') => rsameR_w x x2 cx cx2 m.ex w' (h.ex.up k) (h2.ex.up k) hm.ex.1)
  have hl := hm.qs.1
  clear h h2 hm
  obtain ⟨id, re, op, au, tr, wa, av, rc, qs, an, ns, ex, sz⟩ := m
  simp only [Msg.val] at hq hq2 hS1 hS2 hS3 hl ⊢
  have tk1 : True := trivial
  have tk2 : True := trivial
  go_enter Try.func22, Try.ntmps22
  go_wp2_with (first | (with_reducible refine wp_serial (by kernel_rfl) (by kernel_rfl) (by repeat with_reducible (first | apply NoBad.then | apply NoBad.inBlock | apply NoBad.jump | exact NoBad.rets)) ?_) | fail)
  obtain ⟨W, hW⟩ : ∃ W, (w.alloc (.cells #[.int .i64 id, .bool re, .int .i64 op, .bool au, .bool tr, .bool wa, .bool av, .int .i64 rc, .slice q qs.length cq, .slice a an.length ca, .slice n ns.length cn, .slice x ex.length cx, .int .i64 sz] 25 (0, 0))).alloc (.cells #[.int .i64 id, .bool re, .int .i64 op, .bool au, .bool tr, .bool wa, .bool av, .int .i64 rc, .slice q2 qs.length cq2, .slice a2 an.length ca2, .slice n2 ns.length cn2, .slice x2 ex.length cx2, .int .i64 sz] 25 (0, 0)) = W := ⟨_, rfl⟩
  have hL := Lib.hid (show Bm2 W w.heap.size #[.int .i64 id, .bool re, .int .i64 op, .bool au, .bool tr, .bool wa, .bool av, .int .i64 rc, .slice q qs.length cq, .slice a an.length ca, .slice n ns.length cn, .slice x ex.length cx, .int .i64 sz] #[.int .i64 id, .bool re, .int .i64 op, .bool au, .bool tr, .bool wa, .bool av, .int .i64 rc, .slice q2 qs.length cq2, .slice a2 an.length ca2, .slice n2 ns.length cn2, .slice x2 ex.length cx2, .int .i64 sz] 25 25 by rw [← hW]; exact bm2_new)
  have hWu := Lib.hid (show Upd0 w W by rw [← hW]; exact ((Upd.refl _ _).alloc _).alloc _)
  rw [hW]
  clear hW
  go_loopw [5] (fun jj wr => ∃ j : Nat, j ≤ qs.length ∧ jj = .int .i64 j ∧ Hid (Bm2 wr w.heap.size #[.int .i64 id, .bool re, .int .i64 op, .bool au, .bool tr, .bool wa, .bool av, .int .i64 rc, .slice q qs.length cq, .slice a an.length ca, .slice n ns.length cn, .slice x ex.length cx, .int .i64 sz] #[.int .i64 id, .bool re, .int .i64 op, .bool au, .bool tr, .bool wa, .bool av, .int .i64 rc, .slice q2 qs.length cq2, .slice a2 an.length ca2, .slice n2 ns.length cn2, .slice x2 ex.length cx2, .int .i64 sz] 25 25) ∧ Upd0 w wr) (fun jj _ => qs.length - (intOf jj).toNat)
  case atStart => exact ⟨0, Nat.zero_le _, rfl, hL, hWu.out⟩
  case round =>
    obtain ⟨j, hj, rfl, hB, hu⟩ := hrel
    obtain ⟨m00, m01, m02, m03, m04, m05, m06, m07, m08, m09, m0A, m0B, m0C⟩ := cell13w hB.out.a
    obtain ⟨k00, k01, k02, k03, k04, k05, k06, k07, k08, k09, k0A, k0B, k0C⟩ := cell13w hB.out.b
    by_cases hlt : j < qs.length
    · obtain ⟨⟨nm, ty⟩, hx⟩ : ∃ x, qs[j]? = some x := ⟨qs[j], List.getElem?_eq_getElem hlt⟩
      obtain ⟨g, o, rfl, hg, e0, e1⟩ := hq.out.some hx
      obtain ⟨g2, o2, rfl, hg2, k0, k1⟩ := hq2.out.some hx
      dsimp only at e0 e1 k0 k1
      have d0 := hu.cell (fun h => h) e0
      have d1 := hu.cell (fun h => h) e1
      have b0 := hu.cell (fun h => h) k0
      have b1 := hu.cell (fun h => h) k1
      clear hx e0 e1 k0 k1
      go_wp2_with (first | (with_reducible refine wp_serial (by kernel_rfl) (by kernel_rfl) (by repeat with_reducible (first | apply NoBad.then | apply NoBad.inBlock | apply NoBad.jump | exact NoBad.rets)) ?_) | fail)
      go_roundw
      case rel => exact ⟨j + 1, by omega, by go_num, Lib.hid (hB.out.up (by repeat first | with_reducible (first | exact Upd.refl _ _ | assumption | apply Upd.drew | apply Upd.alloc) | refine Upd0.tr ?_ (by with_reducible assumption) | refine Upd.setCell ?_ (fun h => absurd h (by first | exact Nat.lt_irrefl _ | (simp only []; omega))) _)), (by repeat first | with_reducible (first | exact Upd.refl _ _ | assumption | apply Upd.drew | apply Upd.alloc) | refine Upd0.tr ?_ (by with_reducible assumption) | refine Upd.setCell ?_ (fun h => absurd h (by first | exact Nat.lt_irrefl _ | (simp only []; omega))) _)⟩
      case measure => simp [intOf]; omega
    · go_wp2_with (first
        | (go_at_call 48; have _t := tk1; clear tk1 _t; (with_reducible refine (hS1.out _ (by repeat first | with_reducible (first | exact Upd.refl _ _ | assumption | apply Upd.drew | apply Upd.alloc) | refine Upd0.tr ?_ (by with_reducible assumption) | refine Upd.setCell ?_ (fun h => absurd h (by first | exact Nat.lt_irrefl _ | (simp only []; omega))) _)).use ?_); rintro v w1 ⟨rfl, hu1⟩; have L1 := Lib.hid (hB.out.up (show Upd0 wr w1 from (by repeat first | with_reducible (first | exact Upd.refl _ _ | assumption | apply Upd.drew | apply Upd.alloc) | refine Upd0.tr ?_ (by with_reducible assumption) | refine Upd.setCell ?_ (fun h => absurd h (by first | exact Nat.lt_irrefl _ | (simp only []; omega))) _))); obtain ⟨m10, m11, m12, m13, m14, m15, m16, m17, m18, m19, m1A, m1B, m1C⟩ := cell13w L1.out.a; obtain ⟨k10, k11, k12, k13, k14, k15, k16, k17, k18, k19, k1A, k1B, k1C⟩ := cell13w L1.out.b)
        | (go_at_call 48; have _t := tk2; clear tk2 _t; (with_reducible refine (hS2.out _ (by repeat first | with_reducible (first | exact Upd.refl _ _ | assumption | apply Upd.drew | apply Upd.alloc) | refine Upd0.tr ?_ (by with_reducible assumption) | refine Upd.setCell ?_ (fun h => absurd h (by first | exact Nat.lt_irrefl _ | (simp only []; omega))) _)).use ?_); rintro v w2 ⟨rfl, hu2⟩; have L2 := Lib.hid (L1.out.up (show Upd0 w1 w2 from (by repeat first | with_reducible (first | exact Upd.refl _ _ | assumption | apply Upd.drew | apply Upd.alloc) | refine Upd0.tr ?_ (by with_reducible assumption) | refine Upd.setCell ?_ (fun h => absurd h (by first | exact Nat.lt_irrefl _ | (simp only []; omega))) _))); obtain ⟨m20, m21, m22, m23, m24, m25, m26, m27, m28, m29, m2A, m2B, m2C⟩ := cell13w L2.out.a; obtain ⟨k20, k21, k22, k23, k24, k25, k26, k27, k28, k29, k2A, k2B, k2C⟩ := cell13w L2.out.b)
        | (go_at_call 48; (with_reducible refine (hS3.out _ (by repeat first | with_reducible (first | exact Upd.refl _ _ | assumption | apply Upd.drew | apply Upd.alloc) | refine Upd0.tr ?_ (by with_reducible assumption) | refine Upd.setCell ?_ (fun h => absurd h (by first | exact Nat.lt_irrefl _ | (simp only []; omega))) _)).use ?_); rintro v w3 ⟨rfl, hu3⟩)
        | (with_reducible refine wp_serial (by kernel_rfl) (by kernel_rfl) (by repeat with_reducible (first | apply NoBad.then | apply NoBad.inBlock | apply NoBad.jump | exact NoBad.rets)) ?_) | fail)
      all_goals go_returns
      all_goals exact ⟨rfl, (by repeat first | with_reducible (first | exact Upd.refl _ _ | assumption | apply Upd.drew | apply Upd.alloc) | refine Upd0.tr ?_ (by with_reducible assumption) | refine Upd.setCell ?_ (fun h => absurd h (by first | exact Nat.lt_irrefl _ | (simp only []; omega))) _)⟩
end Go.Proofs.Ytgdejgfmhndbhaa
