/-
  Messages that must not be too great: the answers that the document gives.
-/
import Derived.Test.YtgdejgfmhndbhaaFtY
import Derived.Test.YtgdejgfmhndbhaaKh
import Derived.Test.YtgdejgfmhndbhaaKg
namespace Go.Proofs.Ytgdejgfmhndbhaa
open Go.RowKit Go.Maps
set_option linter.unusedSimpArgs false
set_option linter.unusedVariables false
abbrev lx5 : Rc := ⟨[1, 97], 1, 0, [49, 50, 51, 52]⟩
abbrev lm5 : Msg := ⟨0, false, 0, false, false, false, false, 0, [], [lx5], [], [lx5, lx5], 0⟩
theorem l5a : fitC lm5 45 = 0 ∧ (fitS lm5 45).length = 45 ∧ (fitM lm5 45).ex.length = 1 := by decide +kernel
theorem l5b : fitC lm5 28 = 0 ∧ (fitM lm5 28).tr = true ∧ (fitM lm5 28).an.length = 0 := by decide +kernel
theorem l5c : fitC lm5 11 = 4 := by decide +kernel
theorem l5d : fitC lm5 0 = 1 := by decide +kernel
structure Lv5 (W : World) (B : Nat) : Prop where
  x : W.heap[B]? = some (.cells #[.string ⟨#[1, 97]⟩, .int .i64 1, .int .i64 0, .string ⟨#[49, 50, 51, 52]⟩] 46 (0, 0))
  a : W.heap[B + 1]? = some (.cells #[.string ⟨#[1, 97]⟩, .int .i64 1, .int .i64 0, .string ⟨#[49, 50, 51, 52]⟩] 46 (0, 0))
  e : W.heap[B + 2]? = some (.cells #[.string ⟨#[1, 97]⟩, .int .i64 1, .int .i64 0, .string ⟨#[49, 50, 51, 52]⟩, .string ⟨#[1, 97]⟩, .int .i64 1, .int .i64 0, .string ⟨#[49, 50, 51, 52]⟩] 46 (0, 0))
  m : W.heap[B + 3]? = some (.cells #[.int .i64 0, .bool false, .int .i64 0, .bool false, .bool false, .bool false, .bool false, .int .i64 0, .slice none 0 0, .slice (some ⟨B + 1, 0, none⟩) 1 1, .slice none 0 0, .slice (some ⟨B + 2, 0, none⟩) 2 2, .int .i64 0] 25 (0, 0))
theorem Lv5.up {W W' : World} {B : Nat} (h : Lv5 W B) (k : Upd0 W W') : Lv5 W' B := ⟨k.block (fun h => h) h.x, k.block (fun h => h) h.a, k.block (fun h => h) h.e, k.block (fun h => h) h.m⟩
theorem rsr1F {W : World} {g : Nat} {n : Bs} {k t : Int} {d : Bs} (h : W.heap[g]? = some (.cells #[.string ⟨n.toArray⟩, .int .i64 k, .int .i64 t, .string ⟨d.toArray⟩] 46 (0, 0))) : RsR W (some ⟨g, 0, none⟩) [⟨n, k, t, d⟩] := by
  refine .inr ⟨g, 0, rfl, blk_lt h, fun i x hx => ?_⟩
  have hi := (List.getElem?_eq_some_iff.1 hx).1
  obtain rfl : i = 0 := by simpa using hi
  simp only [List.getElem?_cons_zero, Option.some.injEq] at hx
  subst hx
  obtain ⟨a, b, c, d, _⟩ := four h
  exact ⟨a, b, c, d⟩
theorem rsr2F {W : World} {g : Nat} {n n2 : Bs} {k t k2 t2 : Int} {d d2 : Bs} (h : W.heap[g]? = some (.cells #[.string ⟨n.toArray⟩, .int .i64 k, .int .i64 t, .string ⟨d.toArray⟩, .string ⟨n2.toArray⟩, .int .i64 k2, .int .i64 t2, .string ⟨d2.toArray⟩] 46 (0, 0))) : RsR W (some ⟨g, 0, none⟩) [⟨n, k, t, d⟩, ⟨n2, k2, t2, d2⟩] := by
  refine .inr ⟨g, 0, rfl, blk_lt h, fun i x hx => ?_⟩
  have hi := (List.getElem?_eq_some_iff.1 hx).1
  have hi2 : i = 0 ∨ i = 1 := by simp at hi; omega
  rcases hi2 with rfl | rfl
  · simp only [List.getElem?_cons_zero, Option.some.injEq] at hx
    subst hx
    exact ⟨by rw [blk_cell h]; rfl, by rw [blk_cell h]; rfl, by rw [blk_cell h]; rfl, by rw [blk_cell h]; rfl⟩
  · simp only [List.getElem?_cons_succ, List.getElem?_cons_zero, Option.some.injEq] at hx
    subst hx
    exact ⟨by rw [blk_cell h]; rfl, by rw [blk_cell h]; rfl, by rw [blk_cell h]; rfl, by rw [blk_cell h]; rfl⟩
theorem lm5_rsr {W : World} {B : Nat} (h : Lv5 W B) : MsR W lm5 none (some ⟨B + 1, 0, none⟩) none (some ⟨B + 2, 0, none⟩) := ⟨.inl rfl, rsr1F h.a, .inl rfl, rsr2F h.e⟩
theorem lm5_mid : Mid lm5 := ⟨⟨by decide, fun x hx => by cases hx⟩, ⟨by decide, fun x hx => by simp at hx; subst hx; simp⟩, ⟨by decide, fun x hx => by cases hx⟩, ⟨by decide, fun x hx => by simp at hx; subst hx; simp⟩⟩
def FitV (r : Value) (tr : Bool) (la lx : Nat) (c : Int) (P : Bs → Prop) : Prop := ∃ (i1 : Int) (b1 : Bool) (i2 : Int) (b2 b4 b5 : Bool) (i3 : Int) (q a n x : Option Addr) (lq ln cq ca cn cx : Nat) (i4 : Int) (S : Bs), r = .tuple #[.agg #[.int .i64 i1, .bool b1, .int .i64 i2, .bool b2, .bool tr, .bool b4, .bool b5, .int .i64 i3, .slice q lq cq, .slice a la ca, .slice n ln cn, .slice x lx cx, .int .i64 i4], .string ⟨S.toArray⟩, .int .i64 c] ∧ Hid (P S)
theorem fitV_of (limit : Int) (B : Nat) (w : World) (h : Lv5 w B) (tr : Bool) (la lx : Nat) (c : Int) (P : Bs → Prop) (e1 : (fitM lm5 limit).tr = tr) (e2 : (fitM lm5 limit).an.length = la) (e3 : (fitM lm5 limit).ex.length = lx) (e4 : fitC lm5 limit = c) (e5 : P (fitS lm5 limit)) :
    Calls Try.prog 29 #[.agg #[.int .i64 0, .bool false, .int .i64 0, .bool false, .bool false, .bool false, .bool false, .int .i64 0, .slice none 0 0, .slice (some ⟨B + 1, 0, none⟩) 1 1, .slice none 0 0, .slice (some ⟨B + 2, 0, none⟩) 2 2, .int .i64 0], .int .i64 limit] w (Rets fun r w' => FitV r tr la lx c P ∧ Upd0 w w') := by
  refine (fit_w lm5 limit none (some ⟨B + 1, 0, none⟩) none (some ⟨B + 2, 0, none⟩) 0 1 0 2 w (lm5_rsr h) lm5_mid).use ?_
  rintro v w' ⟨q', a', n', x', cq', ca', cn', cx', rfl, _, hu⟩
  refine ⟨?_, hu⟩
  subst e1 e2 e3 e4
  exact ⟨_, _, _, _, _, _, _, q', a', n', x', _, _, cq', ca', cn', cx', _, _, rfl, Lib.hid e5⟩
set_option maxRecDepth 100000 in
set_option maxHeartbeats 4000000 in
theorem flive_w (w : World) : Calls Try.prog 28 #[] w (Rets fun r w' => r = .bool true ∧ Upd0 w w') := by
  have tk1 : True := trivial
  have tk2 : True := trivial
  have tk3 : True := trivial
  have tk4 : True := trivial
  have tk5 : True := trivial
  have hm1 := Lib.hid (show ∀ w, Calls Try.prog 26 #[.agg #[.int .i64 0, .bool false, .int .i64 0, .bool false, .bool false, .bool false, .bool false, .int .i64 0, .slice none 0 0, .slice none 0 0, .slice none 0 0, .slice none 0 0, .int .i64 600], .bool false] w (Rets fun r w' => r = .int .i64 600 ∧ Upd0 w w') from fun w => limit_w ⟨0, false, 0, false, false, false, false, 0, [], [], [], [], 600⟩ none none none none 0 0 0 0 false w)
  have hm2 := Lib.hid (show ∀ (B : Nat) w, Calls Try.prog 26 #[.agg #[.int .i64 0, .bool false, .int .i64 0, .bool false, .bool false, .bool false, .bool false, .int .i64 0, .slice none 0 0, .slice (some ⟨B + 1, 0, none⟩) 1 1, .slice none 0 0, .slice (some ⟨B + 2, 0, none⟩) 2 2, .int .i64 0], .bool false] w (Rets fun r w' => r = .int .i64 512 ∧ Upd0 w w') from fun B w => limit_w lm5 none (some ⟨B + 1, 0, none⟩) none (some ⟨B + 2, 0, none⟩) 0 1 0 2 false w)
  go_enter Try.func28, Try.ntmps28
  go_wp2_with (first
    | (go_at_call 29; have _t := tk1; (refine (fitV_of 45 w.heap.size _ ⟨blk_alloc (blk_alloc (blk_alloc (alloc_last _ _ _ rfl))), blk_alloc (blk_alloc (alloc_last _ _ _ (by simp))), blk_alloc (alloc_last _ _ _ (by simp)), alloc_last _ _ _ (by simp)⟩ _ _ 1 0 (fun S => S.length = 45) rfl rfl l5a.2.2 l5a.1 l5a.2.1).use ?_); rintro v w1 ⟨⟨i1, b1, i2, b2, b4, b5, i3, q1, a1, n1, x1, lq, ln, cq, ca, cn, cx, i4, S1, rfl, hP1⟩, hu1⟩; clear tk1 _t; have L1 := Lib.hid (Lv5.up (B := w.heap.size) ⟨blk_alloc (blk_alloc (blk_alloc (alloc_last _ _ _ rfl))), blk_alloc (blk_alloc (alloc_last _ _ _ (by simp))), blk_alloc (alloc_last _ _ _ (by simp)), alloc_last _ _ _ (by simp)⟩ hu1); obtain ⟨m10, m11, m12, m13, m14, m15, m16, m17, m18, m19, m1A, m1B, m1C⟩ := cell13w L1.out.m; have hl1 := blk_lt L1.out.m; have hs45 : ((S1.length : Int) == 45) = true := beq_iff_eq.2 (by have := hP1.out; omega))
    | (go_at_call 29; have _t := tk2; (refine (fitV_of 28 w.heap.size _ (L1.out.up (by repeat first | with_reducible (first | exact Upd.refl _ _ | assumption | apply Upd.drew | apply Upd.alloc) | refine Upd0.tr ?_ (by with_reducible assumption) | refine Upd.setCell ?_ (fun h => absurd h (by first | exact Nat.lt_irrefl _ | (simp only []; omega))) _)) true 0 _ 0 (fun _ => True) l5b.2.1 l5b.2.2 rfl l5b.1 trivial).use ?_); rintro v w2 ⟨⟨i1, b1, i2, b2, b4, b5, i3, q2, a2, n2, x2, lq, ln, cq, ca, cn, cx, i4, S2, rfl, hP2⟩, hu2⟩; clear tk2 _t; have L2 := Lib.hid (L1.out.up (show Upd0 w1 w2 from (by repeat first | with_reducible (first | exact Upd.refl _ _ | assumption | apply Upd.drew | apply Upd.alloc) | refine Upd0.tr ?_ (by with_reducible assumption) | refine Upd.setCell ?_ (fun h => absurd h (by first | exact Nat.lt_irrefl _ | (simp only []; omega))) _))); obtain ⟨m20, m21, m22, m23, m24, m25, m26, m27, m28, m29, m2A, m2B, m2C⟩ := cell13w L2.out.m; have hl2 := blk_lt L2.out.m; have A2 := Lib.hid (hu2.block (fun h => h) (alloc_last _ _ w1.heap.size rfl)))
    | (go_at_call 29; have _t := tk3; (refine (fitV_of 11 w.heap.size _ (L2.out.up (by repeat first | with_reducible (first | exact Upd.refl _ _ | assumption | apply Upd.drew | apply Upd.alloc) | refine Upd0.tr ?_ (by with_reducible assumption) | refine Upd.setCell ?_ (fun h => absurd h (by first | exact Nat.lt_irrefl _ | (simp only []; omega))) _)) _ _ _ 4 (fun _ => True) rfl rfl rfl l5c trivial).use ?_); rintro v w3 ⟨⟨i1, b1, i2, b2, b4, b5, i3, q3, a3, n3, x3, lq, ln, cq, ca, cn, cx, i4, S3, rfl, hP3⟩, hu3⟩; clear tk3 _t; have L3 := Lib.hid (L2.out.up (show Upd0 w2 w3 from (by repeat first | with_reducible (first | exact Upd.refl _ _ | assumption | apply Upd.drew | apply Upd.alloc) | refine Upd0.tr ?_ (by with_reducible assumption) | refine Upd.setCell ?_ (fun h => absurd h (by first | exact Nat.lt_irrefl _ | (simp only []; omega))) _))); obtain ⟨m30, m31, m32, m33, m34, m35, m36, m37, m38, m39, m3A, m3B, m3C⟩ := cell13w L3.out.m; have hl3 := blk_lt L3.out.m; have A3 := Lib.hid (hu3.block (fun h => h) (blk_alloc A2.out)); have B3 := Lib.hid (hu3.block (fun h => h) (alloc_last _ _ w2.heap.size rfl)))
    | (go_at_call 29; have _t := tk4; (refine (fitV_of 0 w.heap.size _ (L3.out.up (by repeat first | with_reducible (first | exact Upd.refl _ _ | assumption | apply Upd.drew | apply Upd.alloc) | refine Upd0.tr ?_ (by with_reducible assumption) | refine Upd.setCell ?_ (fun h => absurd h (by first | exact Nat.lt_irrefl _ | (simp only []; omega))) _)) _ _ _ 1 (fun _ => True) rfl rfl rfl l5d trivial).use ?_); rintro v w4 ⟨⟨i1, b1, i2, b2, b4, b5, i3, q4, a4, n4, x4, lq, ln, cq, ca, cn, cx, i4, S4, rfl, hP4⟩, hu4⟩; clear tk4 _t; have L4 := Lib.hid (L3.out.up (show Upd0 w3 w4 from (by repeat first | with_reducible (first | exact Upd.refl _ _ | assumption | apply Upd.drew | apply Upd.alloc) | refine Upd0.tr ?_ (by with_reducible assumption) | refine Upd.setCell ?_ (fun h => absurd h (by first | exact Nat.lt_irrefl _ | (simp only []; omega))) _))); obtain ⟨m40, m41, m42, m43, m44, m45, m46, m47, m48, m49, m4A, m4B, m4C⟩ := cell13w L4.out.m; have hl4 := blk_lt L4.out.m; have A4 := Lib.hid (hu4.block (fun h => h) (blk_alloc A3.out)); have B4 := Lib.hid (hu4.block (fun h => h) (blk_alloc B3.out)); obtain ⟨a40, a41, a42, a43, a44, a45, a46, a47, a48, a49, a4A, a4B, a4C⟩ := cell13w A4.out; obtain ⟨b40, b41, b42, b43, b44, b45, b46, b47, b48, b49, b4A, b4B, b4C⟩ := cell13w B4.out; have hla := blk_lt A4.out; have hlb := blk_lt B4.out)
    | (go_at_call 26; have _t := tk5; clear tk5 _t; (refine (hm1.out _).use ?_); rintro v w5 ⟨rfl, hu5⟩; have L5 := Lib.hid (L4.out.up (show Upd0 w4 w5 from (by repeat first | with_reducible (first | exact Upd.refl _ _ | assumption | apply Upd.drew | apply Upd.alloc) | refine Upd0.tr ?_ (by with_reducible assumption) | refine Upd.setCell ?_ (fun h => absurd h (by first | exact Nat.lt_irrefl _ | (simp only []; omega))) _))); obtain ⟨m50, m51, m52, m53, m54, m55, m56, m57, m58, m59, m5A, m5B, m5C⟩ := cell13w L5.out.m)
    | (go_at_call 26; (refine (hm2.out w.heap.size _).use ?_); rintro v w6 ⟨rfl, hu6⟩)
    | (with_reducible refine wp_serial (by kernel_rfl) (by kernel_rfl) (by repeat with_reducible (first | apply NoBad.then | apply NoBad.inBlock | apply NoBad.jump | exact NoBad.rets)) ?_) | fail)
  all_goals go_returns
  all_goals exact ⟨rfl, (by repeat first | with_reducible (first | exact Upd.refl _ _ | assumption | apply Upd.drew | apply Upd.alloc) | refine Upd0.tr ?_ (by with_reducible assumption) | refine Upd.setCell ?_ (fun h => absurd h (by first | exact Nat.lt_irrefl _ | (simp only []; omega))) _)⟩
end Go.Proofs.Ytgdejgfmhndbhaa
