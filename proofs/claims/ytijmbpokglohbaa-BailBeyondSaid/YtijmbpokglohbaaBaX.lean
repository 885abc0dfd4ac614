/-
  BailMatches, BailLetters: the walks.
-/
import Derived.Test.YtijmbpokglohbaaBaL
import Derived.Test.YtijmbpokglohbaaMsE
import Derived.Test.YtijmbpokglohbaaMgR
import Derived.Test.YtijmbpokglohbaaKh
namespace Go.Proofs.Ytijmbpokglohbaa
open Go.RowKit
set_option linter.unusedSimpArgs false
set_option linter.unusedVariables false
structure Bl2 (W : World) (B : Nat) (c1 c2 : Array Value) (t1 t2 : TypeId) : Prop where
  a : W.heap[B]? = some (.cells c1 t1 (0, 0))
  b : W.heap[B + 1]? = some (.cells c2 t2 (0, 0))
theorem Bl2.up {W W' : World} {B : Nat} {c1 c2 : Array Value} {t1 t2 : TypeId} (h : Bl2 W B c1 c2 t1 t2) (k : Upd0 W W') : Bl2 W' B c1 c2 t1 t2 := ⟨k.block (fun h => h) h.a, k.block (fun h => h) h.b⟩
theorem bl2_new {w : World} {c1 c2 : Array Value} {t1 t2 : TypeId} : Bl2 ((w.alloc (.cells c1 t1 (0, 0))).alloc (.cells c2 t2 (0, 0))) w.heap.size c1 c2 t1 t2 := ⟨blk_alloc (alloc_last _ _ _ rfl), alloc_last _ _ _ (by simp)⟩
theorem few_rcsh {m : Msg} (h : fewB m = true) : rcsh m.an ∧ rcsh m.ns ∧ rcsh m.ex := ⟨(few_mid h).an, (few_mid h).ns, (few_mid h).ex⟩
set_option maxRecDepth 100000 in
set_option maxHeartbeats 4000000 in
theorem bailMatches_walk (m : Msg) (q a n x : Option Addr) (cq ca cn cx : Nat) (m2 : Msg) (q2 a2 n2 x2 : Option Addr) (cq2 ca2 cn2 cx2 : Nat) (w : World) (h : MsR w m q a n x) (hb : m.big) (h2 : MsR w m2 q2 a2 n2 x2) (hb2 : m2.big) :
    Calls Try.prog 3 #[m.val q a n x cq ca cn cx, m2.val q2 a2 n2 x2 cq2 ca2 cn2 cx2] w (Rets fun r w' => r = .bool true ∧ Upd0 w w') := by
  have hF1 := Lib.hid (fun (w' : World) (k : Upd0 w w') => few_w m q a n x cq ca cn cx w' (h.up k) hb)
  have hF2 := Lib.hid (fun (w' : World) (k : Upd0 w w') => few_w m2 q2 a2 n2 x2 cq2 ca2 cn2 cx2 w' (h2.up k) hb2)
  have hP := Lib.hid (fun (w' : World) (k : Upd0 w w') (e : fewB m = true) (e2 : fewB m2 = true) => matches_w m m2 q a n x q2 a2 n2 x2 cq ca cn cx cq2 ca2 cn2 cx2 w' ((h.up k).qs) ((h2.up k).qs) (few_mid e).qs (few_mid e2).qs)
  have hD := Lib.hid (fun (w' : World) (k : Upd0 w w') (e : fewB m = true) (e2 : fewB m2 = true) => rmatches_w m m2 q a n x q2 a2 n2 x2 cq ca cn cx cq2 ca2 cn2 cx2 w' ((h.up k).qs) ((h2.up k).qs) (few_mid e).qs (few_mid e2).qs)
  obtain ⟨f1, e1⟩ : ∃ f, fewB m = f := ⟨_, rfl⟩
  obtain ⟨f2, e2⟩ : ∃ f, fewB m2 = f := ⟨_, rfl⟩
  obtain ⟨r, hr⟩ : ∃ r, matB m m2 = r := ⟨_, rfl⟩
  rw [e1] at hF1 hP hD
  rw [e2] at hF2 hP hD
  rw [hr] at hP hD
  clear e1 e2 hr h h2 hb hb2
  obtain ⟨id, re, op, au, tr, wa, av, rc, qs, an, ns, ex, sz⟩ := m
  obtain ⟨id2, re2, op2, au2, tr2, wa2, av2, rc2, qs2, an2, ns2, ex2, sz2⟩ := m2
  simp only [Msg.val] at hF1 hF2 hP hD ⊢
  have hL := blive_w
  have tk1 : True := trivial
  cases f1 with
  | false =>
    go_enter Try.func3, Try.ntmps3
    go_wp2_with (first
      | (go_at_call 15; (with_reducible refine (hF1.out _ (by repeat first | with_reducible (first | exact Upd.refl _ _ | assumption | apply Upd.drew | apply Upd.alloc) | refine Upd0.tr ?_ (by with_reducible assumption) | refine Upd.setCell ?_ (fun h => absurd h (by first | exact Nat.lt_irrefl _ | (simp only []; omega))) _)).use ?_); rintro v w1 ⟨rfl, hu1⟩)
      | (go_at_call 16; (with_reducible refine (blive_w _).use ?_); rintro v w2 ⟨rfl, hu2⟩)
      | (with_reducible refine wp_serial (by kernel_rfl) (by kernel_rfl) (by repeat with_reducible (first | apply NoBad.then | apply NoBad.inBlock | apply NoBad.jump | exact NoBad.rets)) ?_) | fail)
    all_goals go_returns
    all_goals exact ⟨rfl, (by repeat first | with_reducible (first | exact Upd.refl _ _ | assumption | apply Upd.drew | apply Upd.alloc) | refine Upd0.tr ?_ (by with_reducible assumption) | refine Upd.setCell ?_ (fun h => absurd h (by first | exact Nat.lt_irrefl _ | (simp only []; omega))) _)⟩
  | true =>
    cases f2 with
    | false =>
      go_enter Try.func3, Try.ntmps3
      go_wp2_with (first
        | (go_at_call 15; have _t := tk1; clear tk1 _t; (with_reducible refine (hF1.out _ (by repeat first | with_reducible (first | exact Upd.refl _ _ | assumption | apply Upd.drew | apply Upd.alloc) | refine Upd0.tr ?_ (by with_reducible assumption) | refine Upd.setCell ?_ (fun h => absurd h (by first | exact Nat.lt_irrefl _ | (simp only []; omega))) _)).use ?_); rintro v w1 ⟨rfl, hu1⟩; have L1 := Lib.hid (Bl2.up (bl2_new (w := w)) hu1); obtain ⟨m10, m11, m12, m13, m14, m15, m16, m17, m18, m19, m1A, m1B, m1C⟩ := cell13w L1.out.b)
        | (go_at_call 15; (with_reducible refine (hF2.out _ (by repeat first | with_reducible (first | exact Upd.refl _ _ | assumption | apply Upd.drew | apply Upd.alloc) | refine Upd0.tr ?_ (by with_reducible assumption) | refine Upd.setCell ?_ (fun h => absurd h (by first | exact Nat.lt_irrefl _ | (simp only []; omega))) _)).use ?_); rintro v w2 ⟨rfl, hu2⟩)
        | (go_at_call 16; (with_reducible refine (blive_w _).use ?_); rintro v w3 ⟨rfl, hu3⟩)
        | (with_reducible refine wp_serial (by kernel_rfl) (by kernel_rfl) (by repeat with_reducible (first | apply NoBad.then | apply NoBad.inBlock | apply NoBad.jump | exact NoBad.rets)) ?_) | fail)
      all_goals go_returns
      all_goals exact ⟨rfl, (by repeat first | with_reducible (first | exact Upd.refl _ _ | assumption | apply Upd.drew | apply Upd.alloc) | refine Upd0.tr ?_ (by with_reducible assumption) | refine Upd.setCell ?_ (fun h => absurd h (by first | exact Nat.lt_irrefl _ | (simp only []; omega))) _)⟩
    | true =>
      cases r
      all_goals
        go_enter Try.func3, Try.ntmps3
        go_wp2_with (first
          | (go_at_call 15; have _t := tk1; clear tk1 _t; (with_reducible refine (hF1.out _ (by repeat first | with_reducible (first | exact Upd.refl _ _ | assumption | apply Upd.drew | apply Upd.alloc) | refine Upd0.tr ?_ (by with_reducible assumption) | refine Upd.setCell ?_ (fun h => absurd h (by first | exact Nat.lt_irrefl _ | (simp only []; omega))) _)).use ?_); rintro v w1 ⟨rfl, hu1⟩; have L1 := Lib.hid (Bl2.up (bl2_new (w := w)) hu1); obtain ⟨m10, m11, m12, m13, m14, m15, m16, m17, m18, m19, m1A, m1B, m1C⟩ := cell13w L1.out.b)
          | (go_at_call 15; (with_reducible refine (hF2.out _ (by repeat first | with_reducible (first | exact Upd.refl _ _ | assumption | apply Upd.drew | apply Upd.alloc) | refine Upd0.tr ?_ (by with_reducible assumption) | refine Upd.setCell ?_ (fun h => absurd h (by first | exact Nat.lt_irrefl _ | (simp only []; omega))) _)).use ?_); rintro v w2 ⟨rfl, hu2⟩; have L2 := Lib.hid (L1.out.up (show Upd0 w1 w2 from (by repeat first | with_reducible (first | exact Upd.refl _ _ | assumption | apply Upd.drew | apply Upd.alloc) | refine Upd0.tr ?_ (by with_reducible assumption) | refine Upd.setCell ?_ (fun h => absurd h (by first | exact Nat.lt_irrefl _ | (simp only []; omega))) _))); obtain ⟨m20, m21, m22, m23, m24, m25, m26, m27, m28, m29, m2A, m2B, m2C⟩ := cell13w L2.out.b; obtain ⟨k20, k21, k22, k23, k24, k25, k26, k27, k28, k29, k2A, k2B, k2C⟩ := cell13w L2.out.a)
          | (go_at_call 17; (with_reducible refine (hP.out _ (by repeat first | with_reducible (first | exact Upd.refl _ _ | assumption | apply Upd.drew | apply Upd.alloc) | refine Upd0.tr ?_ (by with_reducible assumption) | refine Upd.setCell ?_ (fun h => absurd h (by first | exact Nat.lt_irrefl _ | (simp only []; omega))) _) trivial trivial).use ?_); rintro v w3 ⟨rfl, hu3⟩)
          | (go_at_call 18; (with_reducible refine (hD.out _ (by repeat first | with_reducible (first | exact Upd.refl _ _ | assumption | apply Upd.drew | apply Upd.alloc) | refine Upd0.tr ?_ (by with_reducible assumption) | refine Upd.setCell ?_ (fun h => absurd h (by first | exact Nat.lt_irrefl _ | (simp only []; omega))) _) trivial trivial).use ?_); rintro v w4 ⟨rfl, hu4⟩)
          | (go_at_call 16; (with_reducible refine (blive_w _).use ?_); rintro v w5 ⟨rfl, hu5⟩)
          | (refine And.intro hu3.ext ?_)
          | (with_reducible refine wp_serial3_1 0 [] [0, 1, 3, 4] 2 [5, 6, 7, 8, 9, 10] [_, _, _, _] _ [_, _, _, _, _, _] (by kernel_rfl) (by decide +kernel) rfl rfl rfl ⟨Nat.zero_le _, fun s hs => absurd hs List.not_mem_nil⟩ (by repeat with_reducible (first | apply NoBad.then | apply NoBad.inBlock | apply NoBad.jump | exact NoBad.rets)) ?_)
          | (with_reducible refine wp_serial (by kernel_rfl) (by kernel_rfl) (by repeat with_reducible (first | apply NoBad.then | apply NoBad.inBlock | apply NoBad.jump | exact NoBad.rets)) ?_) | fail)
        all_goals go_returns
        all_goals exact ⟨rfl, (by repeat first | with_reducible (first | exact Upd.refl _ _ | assumption | apply Upd.drew | apply Upd.alloc) | refine Upd0.tr ?_ (by with_reducible assumption) | refine Upd.setCell ?_ (fun h => absurd h (by first | exact Nat.lt_irrefl _ | (simp only []; omega))) _)⟩
end Go.Proofs.Ytijmbpokglohbaa
