/-
  BailJudges: the walk.
-/
import Derived.Test.YtijmbpokglohbaaBaX
import Derived.Test.YtijmbpokglohbaaBaG
namespace Go.Proofs.Ytijmbpokglohbaa
open Go.RowKit
set_option linter.unusedSimpArgs false
set_option linter.unusedVariables false
set_option maxRecDepth 100000 in
set_option maxHeartbeats 4000000 in
theorem bailJudges_walk (n : Bs) (k : Int) (m : Msg) (q a ns x : Option Addr) (cq ca cn cx : Nat) (z : Bs) (w : World) (h : MsR w m q a ns x) (hb : m.big) :
    Calls Try.prog 4 #[.agg #[.string ⟨n.toArray⟩, .int .i64 k], m.val q a ns x cq ca cn cx, .string ⟨z.toArray⟩] w (Rets fun r w' => r = .bool true ∧ Upd0 w w') := by
  have hF1 := Lib.hid (fun (w' : World) (u : Upd0 w w') => few_w m q a ns x cq ca cn cx w' (h.up u) hb)
  have hJ := Lib.hid (fun (w' : World) (u : Upd0 w w') (e : fewB m = true) (l1 : ¬ (300 : Int) < n.length) (l2 : ¬ (300 : Int) < z.length) => judge_w n k m q a ns x cq ca cn cx z w' (h.up u) (by omega) (by omega) (few_rcsh e).1 (few_rcsh e).2.1)
  have hJ2 := Lib.hid (fun (w' : World) (u : Upd0 w w') (e : fewB m = true) (l1 : ¬ (300 : Int) < n.length) (l2 : ¬ (300 : Int) < z.length) => rjudge_w n k m q a ns x cq ca cn cx z w' (h.up u) (by omega) (by omega) (few_rcsh e).1 (few_rcsh e).2.1)
  have hW := Lib.hid (fun (w' : World) (u : Upd0 w w') (e : fewB m = true) (l2 : ¬ (300 : Int) < z.length) => within_bw x cx m.ex z w' (h.up u).ex (few_rcsh e).2.2.1 (few_rcsh e).2.2.2 (by omega))
  have hW2 := Lib.hid (fun (w' : World) (u : Upd0 w w') (e : fewB m = true) (l2 : ¬ (300 : Int) < z.length) => rwithin_bw x cx m.ex z w' (h.up u).ex (few_rcsh e).2.2.1 (few_rcsh e).2.2.2 (by omega))
  have hEl := Lib.hid (fun (e : fewB m = true) => Nat.le_trans (wit_len m.ex z) (few_rcsh e).2.2.1)
  obtain ⟨f1, e1⟩ : ∃ f, fewB m = f := ⟨_, rfl⟩
  rw [e1] at hF1 hJ hJ2 hW hW2 hEl
  clear e1 hb
  obtain ⟨⟨kd, nm⟩, hJr⟩ : ∃ p, judgeR n k m.tr m.rc m.an m.ns z = p := ⟨_, rfl⟩
  rw [hJr] at hJ hJ2
  clear hJr
  obtain ⟨E, hE⟩ : ∃ E, witL m.ex z = E := ⟨_, rfl⟩
  rw [hE] at hW hW2 hEl
  clear hE
  obtain ⟨id, re, op, au, tr, wa, av, rc, qs, an, nsl, ex, sz⟩ := m
  simp only [Msg.val] at hF1 hJ hJ2 hW hW2 hEl ⊢
  have tk1 : True := trivial
  have hways : f1 = false ∨ (f1 = true ∧ (300 : Int) < n.length) ∨ (f1 = true ∧ ¬ (300 : Int) < n.length ∧ (300 : Int) < z.length) ∨ (f1 = true ∧ ¬ (300 : Int) < n.length ∧ ¬ (300 : Int) < z.length) := by
    cases f1 <;> by_cases h1 : (300 : Int) < n.length <;> by_cases h2 : (300 : Int) < z.length <;> simp [h1, h2]
  rcases hways with rfl | ⟨rfl, l1⟩ | ⟨rfl, l1, l2⟩ | ⟨rfl, l1, l2⟩
  case inr.inr.inr =>
    have l1h := Lib.hid l1
    have l2h := Lib.hid l2
    clear h
    go_enter Try.func4, Try.ntmps4
    go_wp2_with (first
      | (go_at_call 15; (with_reducible refine (hF1.out _ (by (repeat (first | (with_reducible exact Upd.refl _ _) | (with_reducible assumption) | (with_reducible apply Upd.drew) | (with_reducible apply Upd.alloc) | (refine Upd0.tr ?_ (by with_reducible assumption)) | (refine Upd.setCell ?_ (fun h => absurd h (by first | exact Nat.lt_irrefl _ | (simp only []; omega))) _))); done)).use ?_); rintro v w1 ⟨rfl, hu1⟩; have L1 := Lib.hid (Bl2.up (bl2_new (w := w)) hu1); obtain ⟨q0, q1⟩ := cell2w L1.out.a; obtain ⟨m10, m11, m12, m13, m14, m15, m16, m17, m18, m19, m1A, m1B, m1C⟩ := cell13w L1.out.b)
      | (go_at_call 19; (with_reducible refine (hJ.out _ (by (repeat (first | (with_reducible exact Upd.refl _ _) | (with_reducible assumption) | (with_reducible apply Upd.drew) | (with_reducible apply Upd.alloc) | (refine Upd0.tr ?_ (by with_reducible assumption)) | (refine Upd.setCell ?_ (fun h => absurd h (by first | exact Nat.lt_irrefl _ | (simp only []; omega))) _))); done) trivial l1h.out l2h.out).use ?_); rintro v w2 ⟨rfl, hu2⟩; have L2 := Lib.hid (L1.out.up (show Upd0 w1 w2 from (by (repeat (first | (with_reducible exact Upd.refl _ _) | (with_reducible assumption) | (with_reducible apply Upd.drew) | (with_reducible apply Upd.alloc) | (refine Upd0.tr ?_ (by with_reducible assumption)) | (refine Upd.setCell ?_ (fun h => absurd h (by first | exact Nat.lt_irrefl _ | (simp only []; omega))) _))); done))); obtain ⟨q20, q21⟩ := cell2w L2.out.a; obtain ⟨m20, m21, m22, m23, m24, m25, m26, m27, m28, m29, m2A, m2B, m2C⟩ := cell13w L2.out.b)
      | (go_at_call 20; (with_reducible refine (hJ2.out _ (by (repeat (first | (with_reducible exact Upd.refl _ _) | (with_reducible assumption) | (with_reducible apply Upd.drew) | (with_reducible apply Upd.alloc) | (refine Upd0.tr ?_ (by with_reducible assumption)) | (refine Upd.setCell ?_ (fun h => absurd h (by first | exact Nat.lt_irrefl _ | (simp only []; omega))) _))); done) trivial l1h.out l2h.out).use ?_); rintro v w3 ⟨rfl, hu3⟩; have L3 := Lib.hid (L2.out.up (show Upd0 w2 w3 from (by (repeat (first | (with_reducible exact Upd.refl _ _) | (with_reducible assumption) | (with_reducible apply Upd.drew) | (with_reducible apply Upd.alloc) | (refine Upd0.tr ?_ (by with_reducible assumption)) | (refine Upd.setCell ?_ (fun h => absurd h (by first | exact Nat.lt_irrefl _ | (simp only []; omega))) _))); done))); obtain ⟨q30, q31⟩ := cell2w L3.out.a; obtain ⟨m30, m31, m32, m33, m34, m35, m36, m37, m38, m39, m3A, m3B, m3C⟩ := cell13w L3.out.b)
      | (go_at_call 22; (with_reducible refine (hW.out _ (by (repeat (first | (with_reducible exact Upd.refl _ _) | (with_reducible assumption) | (with_reducible apply Upd.drew) | (with_reducible apply Upd.alloc) | (refine Upd0.tr ?_ (by with_reducible assumption)) | (refine Upd.setCell ?_ (fun h => absurd h (by first | exact Nat.lt_irrefl _ | (simp only []; omega))) _))); done) trivial l2h.out).use ?_); rintro v w4 ⟨a4, c4, rfl, hr4, hu4, hf4⟩; have hr4h := Lib.hid hr4; clear hr4 hf4)
      | (go_at_call 23; (with_reducible refine (hW2.out _ (by (repeat (first | (with_reducible exact Upd.refl _ _) | (with_reducible assumption) | (with_reducible apply Upd.drew) | (with_reducible apply Upd.alloc) | (refine Upd0.tr ?_ (by with_reducible assumption)) | (refine Upd.setCell ?_ (fun h => absurd h (by first | exact Nat.lt_irrefl _ | (simp only []; omega))) _))); done) trivial l2h.out).use ?_); rintro v w5 ⟨a5, c5, rfl, hr5, hu5, hf5⟩; have hr5h := Lib.hid hr5; clear hr5 hf5; have hr4i := Lib.hid (hr4h.out.up (show Upd0 w4 w5 from (by (repeat (first | (with_reducible exact Upd.refl _ _) | (with_reducible assumption) | (with_reducible apply Upd.drew) | (with_reducible apply Upd.alloc) | (refine Upd0.tr ?_ (by with_reducible assumption)) | (refine Upd.setCell ?_ (fun h => absurd h (by first | exact Nat.lt_irrefl _ | (simp only []; omega))) _))); done))))
      | (go_at_call 21; (with_reducible refine (rsameR_w _ _ _ _ E _ hr4i.out hr5h.out (hEl.out trivial)).use ?_); rintro v w6 ⟨rfl, hu6⟩)
      | (go_at_call 16; (with_reducible refine (blive_w _).use ?_); rintro v wL ⟨rfl, huL⟩)
      | (refine And.intro hu4.ext ?_)
      | (with_reducible refine wp_serial3_1 0 [] [0, 1, 2, 3, 4, 5, 6, 7, 8, 9, 10, 11, 13, 14, 15] 12 [16, 17, 18, 19, 20, 21, 22] [_, _, _, _, _, _, _, _, _, _, _, _, _, _, _] _ [_, _, _, _, _, _, _] (by kernel_rfl) (by decide +kernel) rfl rfl rfl ⟨Nat.zero_le _, fun s hs => absurd hs List.not_mem_nil⟩ (by (repeat (first | (with_reducible apply NoBad.then) | (with_reducible apply NoBad.inBlock) | (with_reducible apply NoBad.jump) | (with_reducible exact NoBad.rets))); done) ?_)
      | (with_reducible refine wp_serial (by kernel_rfl) (by kernel_rfl) (by (repeat (first | (with_reducible apply NoBad.then) | (with_reducible apply NoBad.inBlock) | (with_reducible apply NoBad.jump) | (with_reducible exact NoBad.rets))); done) ?_) | fail)
    all_goals go_returns
    all_goals exact ⟨rfl, (by (repeat (first | (with_reducible exact Upd.refl _ _) | (with_reducible assumption) | (with_reducible apply Upd.drew) | (with_reducible apply Upd.alloc) | (refine Upd0.tr ?_ (by with_reducible assumption)) | (refine Upd.setCell ?_ (fun h => absurd h (by first | exact Nat.lt_irrefl _ | (simp only []; omega))) _))); done)⟩
  all_goals
    clear h
    go_enter Try.func4, Try.ntmps4
    go_wp2_with (first
      | (go_at_call 15; (with_reducible refine (hF1.out _ (by (repeat (first | (with_reducible exact Upd.refl _ _) | (with_reducible assumption) | (with_reducible apply Upd.drew) | (with_reducible apply Upd.alloc) | (refine Upd0.tr ?_ (by with_reducible assumption)) | (refine Upd.setCell ?_ (fun h => absurd h (by first | exact Nat.lt_irrefl _ | (simp only []; omega))) _))); done)).use ?_); rintro v w1 ⟨rfl, hu1⟩; have L1 := Lib.hid (Bl2.up (bl2_new (w := w)) hu1); obtain ⟨q0, q1⟩ := cell2w L1.out.a)
      | (go_at_call 16; (with_reducible refine (blive_w _).use ?_); rintro v w2 ⟨rfl, hu2⟩)
      | (with_reducible refine wp_serial (by kernel_rfl) (by kernel_rfl) (by (repeat (first | (with_reducible apply NoBad.then) | (with_reducible apply NoBad.inBlock) | (with_reducible apply NoBad.jump) | (with_reducible exact NoBad.rets))); done) ?_) | fail)
    all_goals go_returns
    all_goals exact ⟨rfl, (by (repeat (first | (with_reducible exact Upd.refl _ _) | (with_reducible assumption) | (with_reducible apply Upd.drew) | (with_reducible apply Upd.alloc) | (refine Upd0.tr ?_ (by with_reducible assumption)) | (refine Upd.setCell ?_ (fun h => absurd h (by first | exact Nat.lt_irrefl _ | (simp only []; omega))) _))); done)⟩
end Go.Proofs.Ytijmbpokglohbaa
