/-
  Layer 18's helpers: a set of one datum, whether a set is small; some answers that the document gives.
-/
import Derived.Test.YtijmbpokglohbaaCaK
namespace Go.Proofs.Ytijmbpokglohbaa
open Go.RowKit Go.Maps
set_option linter.unusedSimpArgs false
set_option linter.unusedVariables false
variable {B : Nat}
instance ceDec : DecidableEq CE := fun a b => decidable_of_iff (a.nm = b.nm ∧ a.ty = b.ty ∧ a.tl = b.tl ∧ a.dt = b.dt ∧ a.rk = b.rk ∧ a.en = b.en ∧ a.us = b.us) (by cases a; cases b; simp)
instance csDec : DecidableEq CS := fun a b => decidable_of_iff (a.room = b.room ∧ a.most = b.most ∧ a.N = b.N ∧ a.L = b.L) (by cases a; cases b; simp)
theorem cnew_w (room most : Int) (h1 : 1 ≤ room) (h2 : room ≤ 200) (h3 : 1 ≤ most) (h4 : most ≤ 2147483647) (w : World) : Calls Try.prog 31 #[.int .i64 room, .int .i64 most] w (Rets fun r w' => ∃ t, r = .tuple #[.pointer (some ⟨t, 0, none⟩), .int .i64 0] ∧ Upd0 w w' ∧ Ca w.heap.size w' t ⟨room, most, 0, []⟩) :=
  (cnew_ok room most h1 h2 h3 h4 w).use fun v w' ⟨t, bm, e, _, hu, h⟩ => ⟨t, e, hu, bm, [], h⟩
theorem empty_ok (room most : Int) (h1 : 1 ≤ room) (h2 : room ≤ 200) (h3 : 1 ≤ most) (h4 : most ≤ 2147483647) : COk ⟨room, most, 0, []⟩ :=
  ⟨h1, h2, h3, h4, by simp; omega, Int.le_refl _, fun e he => (by cases he), List.Pairwise.nil, List.Pairwise.nil⟩
theorem clen_c (t : Nat) (c : CS) (w : World) (h : Ca B w t c) : Calls Try.prog 39 #[.pointer (some ⟨t, 0, none⟩)] w (Rets fun r w' => r = .int .i64 c.L.length ∧ Upd0 w w') := by
  obtain ⟨bm, M, h⟩ := h
  exact clen_w t bm c.room c.most c.N c.L M w h
theorem cget_w (t : Nat) (c : CS) (nm : Bs) (ty now : Int) (w : World) (hok : COk c) (hN : c.N ≤ 1000000) (hn : nm.length ≤ 70000) (hty : (Lit.int .i64 ty).wf = true) (hB : B ≤ w.heap.size) (h : Ca B w t c) :
    Calls Try.prog 36 #[.pointer (some ⟨t, 0, none⟩), .string ⟨nm.toArray⟩, .int .i64 ty, .int .i64 now] w (Rets (GetP B w t c nm ty now)) := by
  obtain ⟨bm, M, h⟩ := h
  unfold GetP
  cases hh : hitB c nm ty now with
  | none => exact cget_no t bm c M nm ty now w hok hn hty h hh
  | some e => exact cget_yes t bm c M nm ty now e w hok hN hn hty hB h hh
theorem cget_miss (t : Nat) (c : CS) (nm : Bs) (ty now : Int) (w : World) (hok : COk c) (hn : nm.length ≤ 70000) (hty : (Lit.int .i64 ty).wf = true) (h : Ca B w t c) (hh : hitB c nm ty now = none) :
    Calls Try.prog 36 #[.pointer (some ⟨t, 0, none⟩), .string ⟨nm.toArray⟩, .int .i64 ty, .int .i64 now] w (Rets fun r w' => r = .tuple #[.agg #[.string ⟨([] : Bs).toArray⟩, .int .i64 0, .int .i64 0, .slice none 0 0], .int .i64 0, .bool false] ∧ Upd0 w w') := by
  obtain ⟨bm, M, h⟩ := h
  exact cget_no t bm c M nm ty now w hok hn hty h hh
theorem cget_hit (t : Nat) (c : CS) (nm : Bs) (ty now : Int) (e : CE) (w : World) (hok : COk c) (hN : c.N ≤ 1000000) (hn : nm.length ≤ 70000) (hty : (Lit.int .i64 ty).wf = true) (hB : B ≤ w.heap.size) (h : Ca B w t c) (hh : hitB c nm ty now = some e) :
    Calls Try.prog 36 #[.pointer (some ⟨t, 0, none⟩), .string ⟨nm.toArray⟩, .int .i64 ty, .int .i64 now] w (Rets fun r w' => ∃ ao cap, r = .tuple #[St.val ⟨e.nm, e.ty, e.en - now, e.dt⟩ ao cap, .int .i64 e.rk, .bool true] ∧ UpdQ B w w' ∧ Ca B w' t (bumpC c (fold nm) ty) ∧ DR w' ao e.dt) := by
  obtain ⟨bm, M, h⟩ := h
  exact cget_yes t bm c M nm ty now e w hok hN hn hty hB h hh
theorem res_a {tmps : Array Value} {b : Nat} {x0 x1 x2 x3 : Value} (h6 : tmps.getD 6 undef = .pointer (some ⟨b, 0, none⟩)) {W : World} (r : W.heap[b]? = some (.cells #[x0, x1, x2, x3] 60 (0, 0))) : (results Try.f42 tmps).run Try.prog W = .ok (.agg #[x0, x1, x2, x3]) W := by
  obtain ⟨e0, e1, e2, e3⟩ := set4 r
  have g6 : tmps[6]?.getD undef = .pointer (some ⟨b, 0, none⟩) := by rw [← Array.getD_eq_getD_getElem?]; exact h6
  simp [results, Try.results42, g6, go_sem, e0, e1, e2, e3]
theorem dr_one {w : World} {g : Nat} {d : Bs} (h : w.heap[g]? = some (.cells #[.string ⟨d.toArray⟩] 9 (0, 0))) : DR w (some ⟨g, 0, none⟩) [d] := by
  refine ⟨.inr ⟨g, 0, rfl, blk_lt h, fun i x hx => ?_⟩, fun g' o e => by cases e; exact ⟨_, _, h⟩⟩
  cases i with
  | zero =>
    simp only [List.getElem?_cons_zero, Option.some.injEq] at hx
    subst hx
    rw [blk_cell h]; rfl
  | succ i => simp at hx
set_option maxRecDepth 100000 in
theorem a_w (nm : Bs) (tl : Int) (d : Bs) (w : World) : Calls Try.prog 42 #[.string ⟨nm.toArray⟩, .int .i64 tl, .string ⟨d.toArray⟩] w (Rets fun r w' => ∃ g, r = .agg #[.string ⟨nm.toArray⟩, .int .i64 1, .int .i64 tl, .slice (some ⟨g, 0, none⟩) 1 1] ∧ DR w' (some ⟨g, 0, none⟩) [d] ∧ Upd0 w w') := by
  go_enter Try.func42, Try.ntmps42
  go_wp2_with (first | (with_reducible refine wp_serial (by kernel_rfl) (by kernel_rfl) (by repeat with_reducible (first | apply NoBad.then | apply NoBad.inBlock | apply NoBad.jump | exact NoBad.rets)) ?_) | fail)
  all_goals (refine bodyPost_ret (res_a rfl (blk_alloc (alloc_last _ _ _ rfl))) rfl ⟨w.heap.size + 1, rfl, dr_one (alloc_last _ _ _ (by simp)), (by repeat first | with_reducible (first | exact Upd.refl _ _ | assumption | apply Upd.drew | apply Upd.alloc) | refine Upd0.tr ?_ (by with_reducible assumption) | refine Upd.setCell ?_ (fun h => absurd h (by first | exact Nat.lt_irrefl _ | (simp only []; omega))) _)⟩)
set_option maxRecDepth 100000 in
theorem cshort_w (s : St) (ao : Option Addr) (cap : Nat) (w : World) (hS : SR w ao s.dt) : Calls Try.prog 33 #[s.val ao cap] w (Rets fun r w' => r = .bool (fewS s) ∧ Upd0 w w') := by
  have hSh := Lib.hid hS
  have hw := Lib.hid (fun (w' : World) (g : Nat) (h : w'.heap[g]? = some (.cells (setC s ao cap) 60 (0, 0))) (k : SR w' ao s.dt) => few1_w s g ao cap w' h k)
  clear hS
  obtain ⟨nm, ty, tl, dt⟩ := s
  simp only [St.val] at hw hSh ⊢
  go_enter Try.func33, Try.ntmps33
  go_wp2_with (first
    | (go_at_call 58; refine (hw.out _ _ (alloc_last _ _ _ (by simp)) (hSh.out.up (by repeat first | with_reducible (first | exact Upd.refl _ _ | assumption | apply Upd.drew | apply Upd.alloc) | refine Upd0.tr ?_ (by with_reducible assumption) | refine Upd.setCell ?_ (fun h => absurd h (by first | exact Nat.lt_irrefl _ | (simp only []; omega))) _))).use ?_; rintro v w1 ⟨rfl, hu1⟩)
    | (with_reducible refine wp_serial (by kernel_rfl) (by kernel_rfl) (by repeat with_reducible (first | apply NoBad.then | apply NoBad.inBlock | apply NoBad.jump | exact NoBad.rets)) ?_) | fail)
  all_goals go_returns
  all_goals exact ⟨rfl, (by repeat first | with_reducible (first | exact Upd.refl _ _ | assumption | apply Upd.drew | apply Upd.alloc) | refine Upd0.tr ?_ (by with_reducible assumption) | refine Upd.setCell ?_ (fun h => absurd h (by first | exact Nat.lt_irrefl _ | (simp only []; omega))) _)⟩
theorem keepS {w w' : World} {b : Nat} {c : Array Value} {f : Nat × Nat} (h : w.heap[b]? = some (.cells c 60 f)) (k : UpdQ B w w') : w'.heap[b]? = some (.cells c 60 f) := k.block (fun hk => by rw [h] at hk; exact absurd hk.2 (by simp [kindQ])) h
def lv0 : CS := ⟨2, 100, 0, []⟩
theorem lv0_ok : COk lv0 := empty_ok 2 100 (by decide) (by decide) (by decide) (by decide)
def lv1 : CS := putS lv0 ⟨[1, 97], 1, 5, [[49, 49, 49, 49]]⟩ 3 10
theorem lv1_ok : COk lv1 := putS_ok lv0_ok (by decide +kernel)
theorem lv0_n : lv0.N ≤ 1000000 := by decide +kernel
theorem lv1_w (t g : Nat) (w : World) (hB : B ≤ w.heap.size) (h : Ca B w t lv0) (hd : DR w (some ⟨g, 0, none⟩) [[49, 49, 49, 49]]) : Calls Try.prog 34 #[.pointer (some ⟨t, 0, none⟩), .agg #[.string ⟨#[1, 97]⟩, .int .i64 1, .int .i64 5, .slice (some ⟨g, 0, none⟩) 1 1], .int .i64 3, .int .i64 10] w (Rets fun r w' => r = .int .i64 0 ∧ UpdQ B w w' ∧ Ca B w' t lv1) := by
  have h1 := cput_w t lv0 ⟨[1, 97], 1, 5, [[49, 49, 49, 49]]⟩ (some ⟨g, 0, none⟩) 1 3 10 w lv0_ok lv0_n (by decide +kernel) hB h (Stay.dr hd)
  rw [show putI lv0 ⟨[1, 97], 1, 5, [[49, 49, 49, 49]]⟩ 3 10 = 0 by decide +kernel] at h1
  exact h1
def lv2 : CS := putS lv1 ⟨[1, 97], 1, 5, [[50, 50, 50, 50]]⟩ 2 12
theorem lv2_ok : COk lv2 := putS_ok lv1_ok (by decide +kernel)
theorem lv1_n : lv1.N ≤ 1000000 := by decide +kernel
theorem lv2_w (t g : Nat) (w : World) (hB : B ≤ w.heap.size) (h : Ca B w t lv1) (hd : DR w (some ⟨g, 0, none⟩) [[50, 50, 50, 50]]) : Calls Try.prog 34 #[.pointer (some ⟨t, 0, none⟩), .agg #[.string ⟨#[1, 97]⟩, .int .i64 1, .int .i64 5, .slice (some ⟨g, 0, none⟩) 1 1], .int .i64 2, .int .i64 12] w (Rets fun r w' => r = .int .i64 9 ∧ UpdQ B w w' ∧ Ca B w' t lv2) := by
  have h1 := cput_w t lv1 ⟨[1, 97], 1, 5, [[50, 50, 50, 50]]⟩ (some ⟨g, 0, none⟩) 1 2 12 w lv1_ok lv1_n (by decide +kernel) hB h (Stay.dr hd)
  rw [show putI lv1 ⟨[1, 97], 1, 5, [[50, 50, 50, 50]]⟩ 2 12 = 9 by decide +kernel] at h1
  exact h1
def lv3 : CS := bumpC lv2 (fold [1, 65]) 1
theorem lv3_ok : COk lv3 := bumpC_ok lv2_ok _ _
theorem lv2_n : lv2.N ≤ 1000000 := by decide +kernel
theorem lv3_w (t : Nat) (w : World) (hB : B ≤ w.heap.size) (h : Ca B w t lv2) : Calls Try.prog 36 #[.pointer (some ⟨t, 0, none⟩), .string ⟨#[1, 65]⟩, .int .i64 1, .int .i64 12] w (Rets fun r w' => ∃ ao cap, r = .tuple #[.agg #[.string ⟨#[1, 97]⟩, .int .i64 1, .int .i64 3, .slice ao 1 cap], .int .i64 3, .bool true] ∧ UpdQ B w w' ∧ Ca B w' t lv3) :=
  (cget_hit t lv2 [1, 65] 1 12 (CE.mk [1, 97] 1 5 [[49, 49, 49, 49]] 3 15 1) w lv2_ok lv2_n (by decide) (by decide) hB h (by decide +kernel)).use fun v w' ⟨ao, cap, e, hu, hc, _⟩ => ⟨ao, cap, e, hu, hc⟩
def lv4 : CS := lv3
theorem lv4_ok : COk lv4 := lv3_ok
theorem lv3_n : lv3.N ≤ 1000000 := by decide +kernel
theorem lv4_w (t : Nat) (w : World) (hB : B ≤ w.heap.size) (h : Ca B w t lv3) : Calls Try.prog 36 #[.pointer (some ⟨t, 0, none⟩), .string ⟨#[1, 97]⟩, .int .i64 1, .int .i64 15] w (Rets fun r w' => r = .tuple #[.agg #[.string ⟨#[]⟩, .int .i64 0, .int .i64 0, .slice none 0 0], .int .i64 0, .bool false] ∧ UpdQ B w w' ∧ Ca B w' t lv4) :=
  (cget_miss t lv3 [1, 97] 1 15 w lv3_ok (by decide) (by decide) h (by decide +kernel)).use fun v w' ⟨e, hu⟩ => ⟨e, UpdQ.of0 hu, h.to0 hu⟩
def lv5 : CS := putS lv4 ⟨[1, 97], 1, 500, [[50, 50, 50, 50]]⟩ 2 15
theorem lv5_ok : COk lv5 := putS_ok lv4_ok (by decide +kernel)
theorem lv4_n : lv4.N ≤ 1000000 := by decide +kernel
theorem lv5_w (t g : Nat) (w : World) (hB : B ≤ w.heap.size) (h : Ca B w t lv4) (hd : DR w (some ⟨g, 0, none⟩) [[50, 50, 50, 50]]) : Calls Try.prog 34 #[.pointer (some ⟨t, 0, none⟩), .agg #[.string ⟨#[1, 97]⟩, .int .i64 1, .int .i64 500, .slice (some ⟨g, 0, none⟩) 1 1], .int .i64 2, .int .i64 15] w (Rets fun r w' => r = .int .i64 0 ∧ UpdQ B w w' ∧ Ca B w' t lv5) := by
  have h1 := cput_w t lv4 ⟨[1, 97], 1, 500, [[50, 50, 50, 50]]⟩ (some ⟨g, 0, none⟩) 1 2 15 w lv4_ok lv4_n (by decide +kernel) hB h (Stay.dr hd)
  rw [show putI lv4 ⟨[1, 97], 1, 500, [[50, 50, 50, 50]]⟩ 2 15 = 0 by decide +kernel] at h1
  exact h1
def lv6 : CS := bumpC lv5 (fold [1, 97]) 1
theorem lv6_ok : COk lv6 := bumpC_ok lv5_ok _ _
theorem lv5_n : lv5.N ≤ 1000000 := by decide +kernel
theorem lv6_w (t : Nat) (w : World) (hB : B ≤ w.heap.size) (h : Ca B w t lv5) : Calls Try.prog 36 #[.pointer (some ⟨t, 0, none⟩), .string ⟨#[1, 97]⟩, .int .i64 1, .int .i64 15] w (Rets fun r w' => ∃ ao cap, r = .tuple #[.agg #[.string ⟨#[1, 97]⟩, .int .i64 1, .int .i64 100, .slice ao 1 cap], .int .i64 2, .bool true] ∧ UpdQ B w w' ∧ Ca B w' t lv6) :=
  (cget_hit t lv5 [1, 97] 1 15 (CE.mk [1, 97] 1 500 [[50, 50, 50, 50]] 2 115 3) w lv5_ok lv5_n (by decide) (by decide) hB h (by decide +kernel)).use fun v w' ⟨ao, cap, e, hu, hc, _⟩ => ⟨ao, cap, e, hu, hc⟩
def lv7 : CS := putS lv6 ⟨[1, 98], 1, 5, [[49, 49, 49, 49]]⟩ 1 15
theorem lv7_ok : COk lv7 := putS_ok lv6_ok (by decide +kernel)
theorem lv6_n : lv6.N ≤ 1000000 := by decide +kernel
theorem lv7_w (t g : Nat) (w : World) (hB : B ≤ w.heap.size) (h : Ca B w t lv6) (hd : DR w (some ⟨g, 0, none⟩) [[49, 49, 49, 49]]) : Calls Try.prog 34 #[.pointer (some ⟨t, 0, none⟩), .agg #[.string ⟨#[1, 98]⟩, .int .i64 1, .int .i64 5, .slice (some ⟨g, 0, none⟩) 1 1], .int .i64 1, .int .i64 15] w (Rets fun r w' => r = .int .i64 0 ∧ UpdQ B w w' ∧ Ca B w' t lv7) := by
  have h1 := cput_w t lv6 ⟨[1, 98], 1, 5, [[49, 49, 49, 49]]⟩ (some ⟨g, 0, none⟩) 1 1 15 w lv6_ok lv6_n (by decide +kernel) hB h (Stay.dr hd)
  rw [show putI lv6 ⟨[1, 98], 1, 5, [[49, 49, 49, 49]]⟩ 1 15 = 0 by decide +kernel] at h1
  exact h1
def lv8 : CS := bumpC lv7 (fold [1, 97]) 1
theorem lv8_ok : COk lv8 := bumpC_ok lv7_ok _ _
theorem lv7_n : lv7.N ≤ 1000000 := by decide +kernel
theorem lv8_w (t : Nat) (w : World) (hB : B ≤ w.heap.size) (h : Ca B w t lv7) : Calls Try.prog 36 #[.pointer (some ⟨t, 0, none⟩), .string ⟨#[1, 97]⟩, .int .i64 1, .int .i64 15] w (Rets fun r w' => ∃ ao cap, r = .tuple #[.agg #[.string ⟨#[1, 97]⟩, .int .i64 1, .int .i64 100, .slice ao 1 cap], .int .i64 2, .bool true] ∧ UpdQ B w w' ∧ Ca B w' t lv8) :=
  (cget_hit t lv7 [1, 97] 1 15 (CE.mk [1, 97] 1 500 [[50, 50, 50, 50]] 2 115 4) w lv7_ok lv7_n (by decide) (by decide) hB h (by decide +kernel)).use fun v w' ⟨ao, cap, e, hu, hc, _⟩ => ⟨ao, cap, e, hu, hc⟩
def lv9 : CS := putS lv8 ⟨[1, 99], 1, 5, [[49, 49, 49, 49]]⟩ 1 15
theorem lv9_ok : COk lv9 := putS_ok lv8_ok (by decide +kernel)
theorem lv8_n : lv8.N ≤ 1000000 := by decide +kernel
theorem lv9_w (t g : Nat) (w : World) (hB : B ≤ w.heap.size) (h : Ca B w t lv8) (hd : DR w (some ⟨g, 0, none⟩) [[49, 49, 49, 49]]) : Calls Try.prog 34 #[.pointer (some ⟨t, 0, none⟩), .agg #[.string ⟨#[1, 99]⟩, .int .i64 1, .int .i64 5, .slice (some ⟨g, 0, none⟩) 1 1], .int .i64 1, .int .i64 15] w (Rets fun r w' => r = .int .i64 0 ∧ UpdQ B w w' ∧ Ca B w' t lv9) := by
  have h1 := cput_w t lv8 ⟨[1, 99], 1, 5, [[49, 49, 49, 49]]⟩ (some ⟨g, 0, none⟩) 1 1 15 w lv8_ok lv8_n (by decide +kernel) hB h (Stay.dr hd)
  rw [show putI lv8 ⟨[1, 99], 1, 5, [[49, 49, 49, 49]]⟩ 1 15 = 0 by decide +kernel] at h1
  exact h1
def lv10 : CS := lv9
theorem lv10_ok : COk lv10 := lv9_ok
theorem lv9_n : lv9.N ≤ 1000000 := by decide +kernel
theorem lv10_w (t : Nat) (w : World) (hB : B ≤ w.heap.size) (h : Ca B w t lv9) : Calls Try.prog 36 #[.pointer (some ⟨t, 0, none⟩), .string ⟨#[1, 98]⟩, .int .i64 1, .int .i64 15] w (Rets fun r w' => r = .tuple #[.agg #[.string ⟨#[]⟩, .int .i64 0, .int .i64 0, .slice none 0 0], .int .i64 0, .bool false] ∧ UpdQ B w w' ∧ Ca B w' t lv10) :=
  (cget_miss t lv9 [1, 98] 1 15 w lv9_ok (by decide) (by decide) h (by decide +kernel)).use fun v w' ⟨e, hu⟩ => ⟨e, UpdQ.of0 hu, h.to0 hu⟩
set_option maxRecDepth 100000 in
set_option maxHeartbeats 8000000 in
theorem clive_w (w : World) : Calls Try.prog 32 #[] w (Rets fun r w' => r = .bool true ∧ Upd0 w w') := by
  have tkN : True := trivial
  have tkM : True := trivial
  have tk1 : True := trivial
  have tk2 : True := trivial
  have tk3 : True := trivial
  have tk4 : True := trivial
  have tk5 : True := trivial
  have tk6 : True := trivial
  have tk7 : True := trivial
  have tk8 : True := trivial
  have tk9 : True := trivial
  have tk10 : True := trivial
  have ta1 : True := trivial
  have ta2 : True := trivial
  have ta3 : True := trivial
  have ta4 : True := trivial
  have ta5 : True := trivial
  have ta6 : True := trivial
  have ta7 : True := trivial
  have ta8 : True := trivial
  have ta9 : True := trivial
  have ta10 : True := trivial
  have hlen := Lib.hid (show ((lv10.L.length : Nat) : Int) = 2 by decide +kernel)
  go_enter Try.func32, Try.ntmps32
  go_wp2_with (first
    | (go_at_call 31; have _t := tkN; (with_reducible refine (cnew_w 2 100 (by decide) (by decide) (by decide) (by decide) _).use ?_); rintro v wn ⟨t, rfl, hun, hcn⟩; have Cn := Lib.hid (show Ca w.heap.size wn t lv0 from hcn); have zn := hun.size; clear tkN _t hcn)
    | (go_at_call 31; have _t := tkM; (with_reducible refine (cnew_no 0 100 (by decide) _).use ?_); rintro v w0 ⟨rfl, hu0⟩; have U0 : Upd0 w w0 := (by repeat first | with_reducible (first | exact Upd.refl _ _ | assumption | apply Upd.drew | apply Upd.alloc) | refine Upd0.tr ?_ (by with_reducible assumption) | refine Upd.setCell ?_ (fun h => absurd h (by first | exact Nat.lt_irrefl _ | (simp only []; omega))) _); have C0 := Lib.hid (Cn.out.to0 (show Upd0 wn w0 from (by repeat first | with_reducible (first | exact Upd.refl _ _ | assumption | apply Upd.drew | apply Upd.alloc) | refine Upd0.tr ?_ (by with_reducible assumption) | refine Upd.setCell ?_ (fun h => absurd h (by first | exact Nat.lt_irrefl _ | (simp only []; omega))) _))); have z0 := U0.size; clear tkM _t)
    | (go_at_call 42; have _t := ta1; (with_reducible refine (a_w [1, 97] 5 [49, 49, 49, 49] _).use ?_); rintro v x1 ⟨g1, rfl, hd1, hv1⟩; have W1 : Upd0 w0 x1 := (by repeat first | with_reducible (first | exact Upd.refl _ _ | assumption | apply Upd.drew | apply Upd.alloc) | refine Upd0.tr ?_ (by with_reducible assumption) | refine Upd.setCell ?_ (fun h => absurd h (by first | exact Nat.lt_irrefl _ | (simp only []; omega))) _); have V1 : Upd0 w x1 := U0.tr W1; have D1 := Lib.hid (C0.out.to0 W1); have e1 := Lib.hid hd1; have q1 := V1.size; clear ta1 _t hd1)
    | (go_at_call 34; have _t := tk1; (with_reducible refine (lv1_w t g1 _ q1 D1.out e1.out).use ?_); rintro v w1 ⟨rfl, hq1, hc1⟩; have U1 : Upd0 w w1 := UpdQ.fin V1 hq1; have C1 := Lib.hid hc1; have z1 := U1.size; clear tk1 _t hc1)
    | (go_at_call 42; have _t := ta2; (with_reducible refine (a_w [1, 97] 5 [50, 50, 50, 50] _).use ?_); rintro v x2 ⟨g2, rfl, hd2, hv2⟩; have W2 : Upd0 w1 x2 := (by repeat first | with_reducible (first | exact Upd.refl _ _ | assumption | apply Upd.drew | apply Upd.alloc) | refine Upd0.tr ?_ (by with_reducible assumption) | refine Upd.setCell ?_ (fun h => absurd h (by first | exact Nat.lt_irrefl _ | (simp only []; omega))) _); have V2 : Upd0 w x2 := U1.tr W2; have D2 := Lib.hid (C1.out.to0 W2); have e2 := Lib.hid hd2; have q2 := V2.size; clear ta2 _t hd2)
    | (go_at_call 34; have _t := tk2; (with_reducible refine (lv2_w t g2 _ q2 D2.out e2.out).use ?_); rintro v w2 ⟨rfl, hq2, hc2⟩; have U2 : Upd0 w w2 := UpdQ.fin V2 hq2; have C2 := Lib.hid hc2; have z2 := U2.size; clear tk2 _t hc2)
    | (go_at_call 36; have _t := tk3; (with_reducible refine Calls.use (lv3_w t _ (Nat.le_trans U2.size (Upd.size (w := w2) (S := fun _ => False) (by repeat first | with_reducible (first | exact Upd.refl _ _ | assumption | apply Upd.drew | apply Upd.alloc) | refine Upd0.tr ?_ (by with_reducible assumption) | refine Upd.setCell ?_ (fun h => absurd h (by first | exact Nat.lt_irrefl _ | (simp only []; omega))) _))) (C2.out.to0 (by repeat first | with_reducible (first | exact Upd.refl _ _ | assumption | apply Upd.drew | apply Upd.alloc) | refine Upd0.tr ?_ (by with_reducible assumption) | refine Upd.setCell ?_ (fun h => absurd h (by first | exact Nat.lt_irrefl _ | (simp only []; omega))) _))) ?_); rintro v w3 ⟨ao3, cap3, rfl, hq3, hc3⟩; have U3 : Upd0 w w3 := UpdQ.fin (show Upd0 w _ from U2.tr (by repeat first | with_reducible (first | exact Upd.refl _ _ | assumption | apply Upd.drew | apply Upd.alloc) | refine Upd0.tr ?_ (by with_reducible assumption) | refine Upd.setCell ?_ (fun h => absurd h (by first | exact Nat.lt_irrefl _ | (simp only []; omega))) _)) hq3; have C3 := Lib.hid hc3; have z3 := U3.size; clear tk3 _t hc3)
    | (go_at_call 36; have _t := tk4; (with_reducible refine Calls.use (lv4_w t _ (Nat.le_trans U3.size (Upd.size (w := w3) (S := fun _ => False) (by repeat first | with_reducible (first | exact Upd.refl _ _ | assumption | apply Upd.drew | apply Upd.alloc) | refine Upd0.tr ?_ (by with_reducible assumption) | refine Upd.setCell ?_ (fun h => absurd h (by first | exact Nat.lt_irrefl _ | (simp only []; omega))) _))) (C3.out.to0 (by repeat first | with_reducible (first | exact Upd.refl _ _ | assumption | apply Upd.drew | apply Upd.alloc) | refine Upd0.tr ?_ (by with_reducible assumption) | refine Upd.setCell ?_ (fun h => absurd h (by first | exact Nat.lt_irrefl _ | (simp only []; omega))) _))) ?_); rintro v w4 ⟨rfl, hq4, hc4⟩; have U4 : Upd0 w w4 := UpdQ.fin (show Upd0 w _ from U3.tr (by repeat first | with_reducible (first | exact Upd.refl _ _ | assumption | apply Upd.drew | apply Upd.alloc) | refine Upd0.tr ?_ (by with_reducible assumption) | refine Upd.setCell ?_ (fun h => absurd h (by first | exact Nat.lt_irrefl _ | (simp only []; omega))) _)) hq4; have C4 := Lib.hid hc4; have z4 := U4.size; have y3 := Lib.hid (keepS (by first | exact y3.out | exact blk_alloc y3.out | exact alloc_last _ _ w3.heap.size rfl) hq4); clear tk4 _t hc4)
    | (go_at_call 42; have _t := ta5; (with_reducible refine (a_w [1, 97] 500 [50, 50, 50, 50] _).use ?_); rintro v x5 ⟨g5, rfl, hd5, hv5⟩; have W5 : Upd0 w4 x5 := (by repeat first | with_reducible (first | exact Upd.refl _ _ | assumption | apply Upd.drew | apply Upd.alloc) | refine Upd0.tr ?_ (by with_reducible assumption) | refine Upd.setCell ?_ (fun h => absurd h (by first | exact Nat.lt_irrefl _ | (simp only []; omega))) _); have V5 : Upd0 w x5 := U4.tr W5; have D5 := Lib.hid (C4.out.to0 W5); have e5 := Lib.hid hd5; have q5 := V5.size; have y3 := Lib.hid (hv5.block (fun h => h) (by first | exact y3.out | exact blk_alloc y3.out | exact alloc_last _ _ w3.heap.size rfl)); clear ta5 _t hd5)
    | (go_at_call 34; have _t := tk5; (with_reducible refine (lv5_w t g5 _ q5 D5.out e5.out).use ?_); rintro v w5 ⟨rfl, hq5, hc5⟩; have U5 : Upd0 w w5 := UpdQ.fin V5 hq5; have C5 := Lib.hid hc5; have z5 := U5.size; have y3 := Lib.hid (keepS (by first | exact y3.out | exact blk_alloc y3.out | exact alloc_last _ _ w3.heap.size rfl) hq5); clear tk5 _t hc5)
    | (go_at_call 36; have _t := tk6; (with_reducible refine Calls.use (lv6_w t _ (Nat.le_trans U5.size (Upd.size (w := w5) (S := fun _ => False) (by repeat first | with_reducible (first | exact Upd.refl _ _ | assumption | apply Upd.drew | apply Upd.alloc) | refine Upd0.tr ?_ (by with_reducible assumption) | refine Upd.setCell ?_ (fun h => absurd h (by first | exact Nat.lt_irrefl _ | (simp only []; omega))) _))) (C5.out.to0 (by repeat first | with_reducible (first | exact Upd.refl _ _ | assumption | apply Upd.drew | apply Upd.alloc) | refine Upd0.tr ?_ (by with_reducible assumption) | refine Upd.setCell ?_ (fun h => absurd h (by first | exact Nat.lt_irrefl _ | (simp only []; omega))) _))) ?_); rintro v w6 ⟨ao6, cap6, rfl, hq6, hc6⟩; have U6 : Upd0 w w6 := UpdQ.fin (show Upd0 w _ from U5.tr (by repeat first | with_reducible (first | exact Upd.refl _ _ | assumption | apply Upd.drew | apply Upd.alloc) | refine Upd0.tr ?_ (by with_reducible assumption) | refine Upd.setCell ?_ (fun h => absurd h (by first | exact Nat.lt_irrefl _ | (simp only []; omega))) _)) hq6; have C6 := Lib.hid hc6; have z6 := U6.size; have y3 := Lib.hid (keepS (by first | exact y3.out | exact blk_alloc y3.out | exact alloc_last _ _ w3.heap.size rfl) hq6); clear tk6 _t hc6)
    | (go_at_call 42; have _t := ta7; (with_reducible refine (a_w [1, 98] 5 [49, 49, 49, 49] _).use ?_); rintro v x7 ⟨g7, rfl, hd7, hv7⟩; have W7 : Upd0 w6 x7 := (by repeat first | with_reducible (first | exact Upd.refl _ _ | assumption | apply Upd.drew | apply Upd.alloc) | refine Upd0.tr ?_ (by with_reducible assumption) | refine Upd.setCell ?_ (fun h => absurd h (by first | exact Nat.lt_irrefl _ | (simp only []; omega))) _); have V7 : Upd0 w x7 := U6.tr W7; have D7 := Lib.hid (C6.out.to0 W7); have e7 := Lib.hid hd7; have q7 := V7.size; have y3 := Lib.hid (hv7.block (fun h => h) (by first | exact y3.out | exact blk_alloc y3.out | exact alloc_last _ _ w3.heap.size rfl)); have y6 := Lib.hid (hv7.block (fun h => h) (by first | exact y6.out | exact blk_alloc y6.out | exact alloc_last _ _ w6.heap.size rfl)); clear ta7 _t hd7)
    | (go_at_call 34; have _t := tk7; (with_reducible refine (lv7_w t g7 _ q7 D7.out e7.out).use ?_); rintro v w7 ⟨rfl, hq7, hc7⟩; have U7 : Upd0 w w7 := UpdQ.fin V7 hq7; have C7 := Lib.hid hc7; have z7 := U7.size; have y3 := Lib.hid (keepS (by first | exact y3.out | exact blk_alloc y3.out | exact alloc_last _ _ w3.heap.size rfl) hq7); have y6 := Lib.hid (keepS (by first | exact y6.out | exact blk_alloc y6.out | exact alloc_last _ _ w6.heap.size rfl) hq7); clear tk7 _t hc7)
    | (go_at_call 36; have _t := tk8; (with_reducible refine Calls.use (lv8_w t _ (Nat.le_trans U7.size (Upd.size (w := w7) (S := fun _ => False) (by repeat first | with_reducible (first | exact Upd.refl _ _ | assumption | apply Upd.drew | apply Upd.alloc) | refine Upd0.tr ?_ (by with_reducible assumption) | refine Upd.setCell ?_ (fun h => absurd h (by first | exact Nat.lt_irrefl _ | (simp only []; omega))) _))) (C7.out.to0 (by repeat first | with_reducible (first | exact Upd.refl _ _ | assumption | apply Upd.drew | apply Upd.alloc) | refine Upd0.tr ?_ (by with_reducible assumption) | refine Upd.setCell ?_ (fun h => absurd h (by first | exact Nat.lt_irrefl _ | (simp only []; omega))) _))) ?_); rintro v w8 ⟨ao8, cap8, rfl, hq8, hc8⟩; have U8 : Upd0 w w8 := UpdQ.fin (show Upd0 w _ from U7.tr (by repeat first | with_reducible (first | exact Upd.refl _ _ | assumption | apply Upd.drew | apply Upd.alloc) | refine Upd0.tr ?_ (by with_reducible assumption) | refine Upd.setCell ?_ (fun h => absurd h (by first | exact Nat.lt_irrefl _ | (simp only []; omega))) _)) hq8; have C8 := Lib.hid hc8; have z8 := U8.size; have y3 := Lib.hid (keepS (by first | exact y3.out | exact blk_alloc y3.out | exact alloc_last _ _ w3.heap.size rfl) hq8); have y6 := Lib.hid (keepS (by first | exact y6.out | exact blk_alloc y6.out | exact alloc_last _ _ w6.heap.size rfl) hq8); clear tk8 _t hc8)
    | (go_at_call 42; have _t := ta9; (with_reducible refine (a_w [1, 99] 5 [49, 49, 49, 49] _).use ?_); rintro v x9 ⟨g9, rfl, hd9, hv9⟩; have W9 : Upd0 w8 x9 := (by repeat first | with_reducible (first | exact Upd.refl _ _ | assumption | apply Upd.drew | apply Upd.alloc) | refine Upd0.tr ?_ (by with_reducible assumption) | refine Upd.setCell ?_ (fun h => absurd h (by first | exact Nat.lt_irrefl _ | (simp only []; omega))) _); have V9 : Upd0 w x9 := U8.tr W9; have D9 := Lib.hid (C8.out.to0 W9); have e9 := Lib.hid hd9; have q9 := V9.size; have y3 := Lib.hid (hv9.block (fun h => h) (by first | exact y3.out | exact blk_alloc y3.out | exact alloc_last _ _ w3.heap.size rfl)); have y6 := Lib.hid (hv9.block (fun h => h) (by first | exact y6.out | exact blk_alloc y6.out | exact alloc_last _ _ w6.heap.size rfl)); clear ta9 _t hd9)
    | (go_at_call 34; have _t := tk9; (with_reducible refine (lv9_w t g9 _ q9 D9.out e9.out).use ?_); rintro v w9 ⟨rfl, hq9, hc9⟩; have U9 : Upd0 w w9 := UpdQ.fin V9 hq9; have C9 := Lib.hid hc9; have z9 := U9.size; have y3 := Lib.hid (keepS (by first | exact y3.out | exact blk_alloc y3.out | exact alloc_last _ _ w3.heap.size rfl) hq9); have y6 := Lib.hid (keepS (by first | exact y6.out | exact blk_alloc y6.out | exact alloc_last _ _ w6.heap.size rfl) hq9); clear tk9 _t hc9)
    | (go_at_call 36; have _t := tk10; (with_reducible refine Calls.use (lv10_w t _ (Nat.le_trans U9.size (Upd.size (w := w9) (S := fun _ => False) (by repeat first | with_reducible (first | exact Upd.refl _ _ | assumption | apply Upd.drew | apply Upd.alloc) | refine Upd0.tr ?_ (by with_reducible assumption) | refine Upd.setCell ?_ (fun h => absurd h (by first | exact Nat.lt_irrefl _ | (simp only []; omega))) _))) (C9.out.to0 (by repeat first | with_reducible (first | exact Upd.refl _ _ | assumption | apply Upd.drew | apply Upd.alloc) | refine Upd0.tr ?_ (by with_reducible assumption) | refine Upd.setCell ?_ (fun h => absurd h (by first | exact Nat.lt_irrefl _ | (simp only []; omega))) _))) ?_); rintro v w10 ⟨rfl, hq10, hc10⟩; have U10 : Upd0 w w10 := UpdQ.fin (show Upd0 w _ from U9.tr (by repeat first | with_reducible (first | exact Upd.refl _ _ | assumption | apply Upd.drew | apply Upd.alloc) | refine Upd0.tr ?_ (by with_reducible assumption) | refine Upd.setCell ?_ (fun h => absurd h (by first | exact Nat.lt_irrefl _ | (simp only []; omega))) _)) hq10; have C10 := Lib.hid hc10; have z10 := U10.size; have y3 := Lib.hid (keepS (by first | exact y3.out | exact blk_alloc y3.out | exact alloc_last _ _ w3.heap.size rfl) hq10); have yl3 := blk_lt y3.out; have yc3 : w10.cell? ⟨w3.heap.size, 2, none⟩ = some (.int .i64 3) := (by rw [blk_cell y3.out]; rfl); have y6 := Lib.hid (keepS (by first | exact y6.out | exact blk_alloc y6.out | exact alloc_last _ _ w6.heap.size rfl) hq10); have yl6 := blk_lt y6.out; have yc6 : w10.cell? ⟨w6.heap.size, 2, none⟩ = some (.int .i64 100) := (by rw [blk_cell y6.out]; rfl); clear tk10 _t hc10)
    | (go_at_call 39; (with_reducible refine Calls.use (clen_c t lv10 _ (C10.out.to0 (by repeat first | with_reducible (first | exact Upd.refl _ _ | assumption | apply Upd.drew | apply Upd.alloc) | refine Upd0.tr ?_ (by with_reducible assumption) | refine Upd.setCell ?_ (fun h => absurd h (by first | exact Nat.lt_irrefl _ | (simp only []; omega))) _))) ?_); rintro v wz ⟨rfl, huz⟩; rw [hlen.out])
    | (with_reducible refine wp_serial (by kernel_rfl) (by kernel_rfl) (by repeat with_reducible (first | apply NoBad.then | apply NoBad.inBlock | apply NoBad.jump | exact NoBad.rets)) ?_) | fail)
  all_goals go_returns
  all_goals exact ⟨rfl, show Upd0 w _ from U10.tr (by repeat first | with_reducible (first | exact Upd.refl _ _ | assumption | apply Upd.drew | apply Upd.alloc) | refine Upd0.tr ?_ (by with_reducible assumption) | refine Upd.setCell ?_ (fun h => absurd h (by first | exact Nat.lt_irrefl _ | (simp only []; omega))) _)⟩
end Go.Proofs.Ytijmbpokglohbaa
