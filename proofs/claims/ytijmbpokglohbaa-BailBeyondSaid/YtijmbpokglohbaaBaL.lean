/-
  What may be believed of a reply: the answers that the document gives.
-/
import Derived.Test.YtijmbpokglohbaaBaE
import Derived.Test.YtijmbpokglohbaaBaF
import Derived.Test.YtijmbpokglohbaaKh
namespace Go.Proofs.Ytijmbpokglohbaa
open Go.RowKit
set_option linter.unusedSimpArgs false
set_option linter.unusedVariables false
abbrev lvn : Bs := [1, 120, 1, 99, 1, 97]
abbrev lvr : Rc := ⟨[1, 67, 1, 97], 2, 0, [1, 98, 0]⟩
abbrev lvm : Msg := ⟨3, true, 0, false, false, false, false, 0, [⟨lvn, 1⟩], [], [lvr], [], 0⟩
theorem lv1 : judgeR lvn 1 false 0 [] [lvr] [1, 97] = (4, [1, 99, 1, 97]) := by decide +kernel
theorem lv2 : judgeR lvn 1 false 0 [] [lvr] [1, 98] = (0, []) := by decide +kernel
theorem lv3 : judgeR lvn 1 false 0 [] [lvr] [1, 99, 1, 97] = (6, []) := by decide +kernel
theorem lv4 : witL [⟨[1, 98], 1, 0, [49, 49, 49, 49]⟩, ⟨[1, 65], 1, 0, [49, 49, 49, 49]⟩] [1, 97] = [⟨[1, 65], 1, 0, [49, 49, 49, 49]⟩] := by
  have h1 : witB [1, 97] ⟨[1, 98], 1, 0, [49, 49, 49, 49]⟩ = false := by decide +kernel
  have h2 : witB [1, 97] ⟨[1, 65], 1, 0, [49, 49, 49, 49]⟩ = true := by decide +kernel
  simp [witL, h1, h2]
theorem lv5 : matB ⟨3, false, 0, false, false, false, false, 0, [⟨lvn, 1⟩], [], [], [], 0⟩ lvm = true := by decide +kernel
theorem lv6 : matB ⟨4, false, 0, false, false, false, false, 0, [⟨lvn, 1⟩], [], [], [], 0⟩ lvm = false := by decide +kernel
structure LvW (W : World) (B : Nat) : Prop where
  q : W.heap[B]? = some (.cells #[.string ⟨#[1, 120, 1, 99, 1, 97]⟩, .int .i64 1] 31 (0, 0))
  qa : W.heap[B + 1]? = some (.cells #[.string ⟨#[1, 120, 1, 99, 1, 97]⟩, .int .i64 1] 31 (0, 0))
  ra : W.heap[B + 2]? = some (.cells #[.string ⟨#[1, 67, 1, 97]⟩, .int .i64 2, .int .i64 0, .string ⟨#[1, 98, 0]⟩] 82 (0, 0))
  m : W.heap[B + 3]? = some (.cells #[.int .i64 3, .bool true, .int .i64 0, .bool false, .bool false, .bool false, .bool false, .int .i64 0, .slice (some ⟨B + 1, 0, none⟩) 1 1, .slice none 0 0, .slice (some ⟨B + 2, 0, none⟩) 1 1, .slice none 0 0, .int .i64 0] 25 (0, 0))
theorem LvW.up {W W' : World} {B : Nat} (h : LvW W B) (k : Upd0 W W') : LvW W' B := ⟨k.block (fun h => h) h.q, k.block (fun h => h) h.qa, k.block (fun h => h) h.ra, k.block (fun h => h) h.m⟩
theorem qsr_one {W : World} {g : Nat} {n : Bs} {k : Int} (h : W.heap[g]? = some (.cells #[.string ⟨n.toArray⟩, .int .i64 k] 31 (0, 0))) : QsR W (some ⟨g, 0, none⟩) [⟨n, k⟩] := by
  refine .inr ⟨g, 0, rfl, blk_lt h, fun i x hx => ?_⟩
  have hi := (List.getElem?_eq_some_iff.1 hx).1
  obtain rfl : i = 0 := by simpa using hi
  simp only [List.getElem?_cons_zero, Option.some.injEq] at hx
  subst hx
  exact cell2w h
theorem rsr_one {W : World} {g : Nat} {n : Bs} {k t : Int} {d : Bs} (h : W.heap[g]? = some (.cells #[.string ⟨n.toArray⟩, .int .i64 k, .int .i64 t, .string ⟨d.toArray⟩] 82 (0, 0))) : RsR W (some ⟨g, 0, none⟩) [⟨n, k, t, d⟩] := by
  refine .inr ⟨g, 0, rfl, blk_lt h, fun i x hx => ?_⟩
  have hi := (List.getElem?_eq_some_iff.1 hx).1
  obtain rfl : i = 0 := by simpa using hi
  simp only [List.getElem?_cons_zero, Option.some.injEq] at hx
  subst hx
  obtain ⟨a, b, c, d, _⟩ := four h
  exact ⟨a, b, c, d⟩
theorem rsr_two {W : World} {g : Nat} {n n2 : Bs} {k t k2 t2 : Int} {d d2 : Bs} (h : W.heap[g]? = some (.cells #[.string ⟨n.toArray⟩, .int .i64 k, .int .i64 t, .string ⟨d.toArray⟩, .string ⟨n2.toArray⟩, .int .i64 k2, .int .i64 t2, .string ⟨d2.toArray⟩] 82 (0, 0))) : RsR W (some ⟨g, 0, none⟩) [⟨n, k, t, d⟩, ⟨n2, k2, t2, d2⟩] := by
  refine .inr ⟨g, 0, rfl, blk_lt h, fun i x hx => ?_⟩
  have hi := (List.getElem?_eq_some_iff.1 hx).1
  have hi2 : i = 0 ∨ i = 1 := by simp at hi; omega
  rcases hi2 with rfl | rfl
  · simp only [List.getElem?_cons_zero, Option.some.injEq] at hx
    subst hx
    exact ⟨by rw [blk_cell h]; rfl, by rw [blk_cell h]; rfl, by rw [blk_cell h]; rfl, by rw [blk_cell h]; rfl⟩
  · simp only [List.getElem?_cons_succ, List.getElem?_cons_zero, Option.some.injEq] at hx
    subst hx
    exact ⟨by rw [blk_cell h]; rfl, by rw [blk_cell h]; rfl, by rw [blk_cell h]; rfl, by rw [blk_cell h]; rfl⟩
theorem lvm_rsr {W : World} {B : Nat} (h : LvW W B) : MsR W lvm (some ⟨B + 1, 0, none⟩) none (some ⟨B + 2, 0, none⟩) none := ⟨qsr_one h.qa, .inl rfl, rsr_one h.ra, .inl rfl⟩
theorem rcsh_one {r : Rc} (h1 : r.nm.length ≤ 5000) (h2 : r.d.length ≤ 5000) : rcsh [r] := ⟨by simp, fun x hx => by simp at hx; subst hx; exact ⟨h1, h2⟩⟩
theorem lvJ (z : Bs) (k : Int) (nm : Bs) (e : judgeR lvn 1 false 0 [] [lvr] z = (k, nm)) (hz : z.length ≤ 5000) (B : Nat) (w : World) (h : LvW w B) :
    Calls Try.prog 19 #[.agg #[.string ⟨#[1, 120, 1, 99, 1, 97]⟩, .int .i64 1], .agg #[.int .i64 3, .bool true, .int .i64 0, .bool false, .bool false, .bool false, .bool false, .int .i64 0, .slice (some ⟨B + 1, 0, none⟩) 1 1, .slice none 0 0, .slice (some ⟨B + 2, 0, none⟩) 1 1, .slice none 0 0, .int .i64 0], .string ⟨z.toArray⟩] w (Rets fun r w' => r = .tuple #[.int .i64 k, .string ⟨nm.toArray⟩] ∧ Upd0 w w') := by
  have := judge_w lvn 1 lvm _ _ _ _ 1 0 1 0 z w (lvm_rsr h) (by decide) hz ⟨by decide, fun x hx => by cases hx⟩ (rcsh_one (by decide) (by decide))
  rw [e] at this
  exact this
theorem lvM (i : Int) (b : Bool) (e : matB ⟨i, false, 0, false, false, false, false, 0, [⟨lvn, 1⟩], [], [], [], 0⟩ lvm = b) (B g : Nat) (w : World) (h : LvW w B) (hg : w.heap[g]? = some (.cells #[.string ⟨#[1, 120, 1, 99, 1, 97]⟩, .int .i64 1] 31 (0, 0))) :
    Calls Try.prog 17 #[.agg #[.int .i64 i, .bool false, .int .i64 0, .bool false, .bool false, .bool false, .bool false, .int .i64 0, .slice (some ⟨g, 0, none⟩) 1 1, .slice none 0 0, .slice none 0 0, .slice none 0 0, .int .i64 0], .agg #[.int .i64 3, .bool true, .int .i64 0, .bool false, .bool false, .bool false, .bool false, .int .i64 0, .slice (some ⟨B + 1, 0, none⟩) 1 1, .slice none 0 0, .slice (some ⟨B + 2, 0, none⟩) 1 1, .slice none 0 0, .int .i64 0]] w (Rets fun r w' => r = .bool b ∧ Upd0 w w') := by
  have := matches_w ⟨i, false, 0, false, false, false, false, 0, [⟨lvn, 1⟩], [], [], [], 0⟩ lvm (some ⟨g, 0, none⟩) none none none (some ⟨B + 1, 0, none⟩) none (some ⟨B + 2, 0, none⟩) none 1 0 0 0 1 0 1 0 w (qsr_one hg) (qsr_one h.qa) ⟨by simp, fun x hx => by simp at hx; subst hx; simp⟩ ⟨by simp, fun x hx => by simp at hx; subst hx; simp⟩
  rw [e] at this
  exact this
theorem lvW (g : Nat) (w : World) (hg : w.heap[g]? = some (.cells #[.string ⟨#[1, 98]⟩, .int .i64 1, .int .i64 0, .string ⟨#[49, 49, 49, 49]⟩, .string ⟨#[1, 65]⟩, .int .i64 1, .int .i64 0, .string ⟨#[49, 49, 49, 49]⟩] 82 (0, 0))) :
    Calls Try.prog 22 #[.slice (some ⟨g, 0, none⟩) 2 2, .string ⟨#[1, 97]⟩] w (Rets fun r w' => ∃ ao' cap', r = .slice ao' 1 cap' ∧ Upd0 w w') := by
  refine (within_bw (some ⟨g, 0, none⟩) 2 [⟨[1, 98], 1, 0, [49, 49, 49, 49]⟩, ⟨[1, 65], 1, 0, [49, 49, 49, 49]⟩] [1, 97] w (rsr_two hg) (by decide) (fun x hx => by simp at hx; rcases hx with rfl | rfl <;> decide) (by decide)).use ?_
  rintro v w' ⟨ao', cap', rfl, _, hu, _⟩
  rw [lv4]
  exact ⟨ao', cap', rfl, hu⟩
set_option maxRecDepth 100000 in
set_option maxHeartbeats 4000000 in
theorem blive_w (w : World) : Calls Try.prog 16 #[] w (Rets fun r w' => r = .bool true ∧ Upd0 w w') := by
  have tk1 : True := trivial
  have tk2 : True := trivial
  have tk3 : True := trivial
  have tk4 : True := trivial
  go_enter Try.func16, Try.ntmps16
  go_wp2_with (first
    | (go_at_call 19; have _t := tk1; (refine (lvJ [1, 97] 4 [1, 99, 1, 97] lv1 (by decide) w.heap.size _ ⟨blk_alloc (blk_alloc (blk_alloc (alloc_last _ _ _ rfl))), blk_alloc (blk_alloc (alloc_last _ _ _ (by simp))), blk_alloc (alloc_last _ _ _ (by simp)), alloc_last _ _ _ (by simp)⟩).use ?_); rintro v w1 ⟨rfl, hu1⟩; clear tk1 _t; have L1 := Lib.hid (LvW.up (B := w.heap.size) ⟨blk_alloc (blk_alloc (blk_alloc (alloc_last _ _ _ rfl))), blk_alloc (blk_alloc (alloc_last _ _ _ (by simp))), blk_alloc (alloc_last _ _ _ (by simp)), alloc_last _ _ _ (by simp)⟩ hu1); obtain ⟨q10, q11⟩ := cell2w L1.out.q; obtain ⟨m10, m11, m12, m13, m14, m15, m16, m17, m18, m19, m1A, m1B, m1C⟩ := cell13w L1.out.m; have hl1 := blk_lt L1.out.m)
    | (go_at_call 19; have _t := tk2; (refine (lvJ [1, 98] 0 [] lv2 (by decide) w.heap.size _ (L1.out.up (by repeat first | with_reducible (first | exact Upd.refl _ _ | assumption | apply Upd.drew | apply Upd.alloc) | refine Upd0.tr ?_ (by with_reducible assumption) | refine Upd.setCell ?_ (fun h => absurd h (by first | exact Nat.lt_irrefl _ | (simp only []; omega))) _))).use ?_); rintro v w2 ⟨rfl, hu2⟩; clear tk2 _t; have L2 := Lib.hid (L1.out.up (show Upd0 w1 w2 from (by repeat first | with_reducible (first | exact Upd.refl _ _ | assumption | apply Upd.drew | apply Upd.alloc) | refine Upd0.tr ?_ (by with_reducible assumption) | refine Upd.setCell ?_ (fun h => absurd h (by first | exact Nat.lt_irrefl _ | (simp only []; omega))) _))); obtain ⟨q20, q21⟩ := cell2w L2.out.q; obtain ⟨m20, m21, m22, m23, m24, m25, m26, m27, m28, m29, m2A, m2B, m2C⟩ := cell13w L2.out.m; have hl2 := blk_lt L2.out.m)
    | (go_at_call 19; (refine (lvJ [1, 99, 1, 97] 6 [] lv3 (by decide) w.heap.size _ (L2.out.up (by repeat first | with_reducible (first | exact Upd.refl _ _ | assumption | apply Upd.drew | apply Upd.alloc) | refine Upd0.tr ?_ (by with_reducible assumption) | refine Upd.setCell ?_ (fun h => absurd h (by first | exact Nat.lt_irrefl _ | (simp only []; omega))) _))).use ?_); rintro v w3 ⟨rfl, hu3⟩; have L3 := Lib.hid (L2.out.up (show Upd0 w2 w3 from (by repeat first | with_reducible (first | exact Upd.refl _ _ | assumption | apply Upd.drew | apply Upd.alloc) | refine Upd0.tr ?_ (by with_reducible assumption) | refine Upd.setCell ?_ (fun h => absurd h (by first | exact Nat.lt_irrefl _ | (simp only []; omega))) _))); obtain ⟨q30, q31⟩ := cell2w L3.out.q; obtain ⟨m30, m31, m32, m33, m34, m35, m36, m37, m38, m39, m3A, m3B, m3C⟩ := cell13w L3.out.m; have hl3 := blk_lt L3.out.m)
    | (go_at_call 22; (refine (lvW w3.heap.size _ (alloc_last _ _ _ rfl)).use ?_); rintro v w4 ⟨ao4, cp4, rfl, hu4⟩; have L4 := Lib.hid (L3.out.up (show Upd0 w3 w4 from (by repeat first | with_reducible (first | exact Upd.refl _ _ | assumption | apply Upd.drew | apply Upd.alloc) | refine Upd0.tr ?_ (by with_reducible assumption) | refine Upd.setCell ?_ (fun h => absurd h (by first | exact Nat.lt_irrefl _ | (simp only []; omega))) _))); obtain ⟨q40, q41⟩ := cell2w L4.out.q; obtain ⟨m40, m41, m42, m43, m44, m45, m46, m47, m48, m49, m4A, m4B, m4C⟩ := cell13w L4.out.m; have hl4 := blk_lt L4.out.m)
    | (go_at_call 17; have _t := tk3; (refine (lvM 3 true lv5 w.heap.size w4.heap.size _ (L4.out.up (by repeat first | with_reducible (first | exact Upd.refl _ _ | assumption | apply Upd.drew | apply Upd.alloc) | refine Upd0.tr ?_ (by with_reducible assumption) | refine Upd.setCell ?_ (fun h => absurd h (by first | exact Nat.lt_irrefl _ | (simp only []; omega))) _)) (alloc_last _ _ _ rfl)).use ?_); rintro v w5 ⟨rfl, hu5⟩; clear tk3 _t; have L5 := Lib.hid (L4.out.up (show Upd0 w4 w5 from (by repeat first | with_reducible (first | exact Upd.refl _ _ | assumption | apply Upd.drew | apply Upd.alloc) | refine Upd0.tr ?_ (by with_reducible assumption) | refine Upd.setCell ?_ (fun h => absurd h (by first | exact Nat.lt_irrefl _ | (simp only []; omega))) _))); obtain ⟨q50, q51⟩ := cell2w L5.out.q; obtain ⟨m50, m51, m52, m53, m54, m55, m56, m57, m58, m59, m5A, m5B, m5C⟩ := cell13w L5.out.m; have hl5 := blk_lt L5.out.m)
    | (go_at_call 17; (refine (lvM 4 false lv6 w.heap.size w5.heap.size _ (L5.out.up (by repeat first | with_reducible (first | exact Upd.refl _ _ | assumption | apply Upd.drew | apply Upd.alloc) | refine Upd0.tr ?_ (by with_reducible assumption) | refine Upd.setCell ?_ (fun h => absurd h (by first | exact Nat.lt_irrefl _ | (simp only []; omega))) _)) (alloc_last _ _ _ rfl)).use ?_); rintro v w6 ⟨rfl, hu6⟩)
    | (with_reducible refine wp_serial (by kernel_rfl) (by kernel_rfl) (by repeat with_reducible (first | apply NoBad.then | apply NoBad.inBlock | apply NoBad.jump | exact NoBad.rets)) ?_) | fail)
  all_goals go_returns
  all_goals exact ⟨rfl, (by repeat first | with_reducible (first | exact Upd.refl _ _ | assumption | apply Upd.drew | apply Upd.alloc) | refine Upd0.tr ?_ (by with_reducible assumption) | refine Upd.setCell ?_ (fun h => absurd h (by first | exact Nat.lt_irrefl _ | (simp only []; omega))) _)⟩
end Go.Proofs.Ytijmbpokglohbaa
