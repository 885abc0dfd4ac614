/-
  Operations on timers that came in; the walks of TimerNil and TimerMoves.
-/
import Derived.Test.YtkkncnffkmopbaaTmL
namespace Go.Proofs.Ytkkncnffkmopbaa
open Go.RowKit Go.Maps
set_option linter.unusedSimpArgs false
set_option linter.unusedVariables false
structure OpT where
  dO : Int
  nm : Bs
  at_ : Int
def OpT.val (o : OpT) : Value := .agg #[.int .i64 o.dO, .string ⟨o.nm.toArray⟩, .int .i64 o.at_]
theorem tcell3 {w : World} {b : Nat} {a0 a1 a2 : Value} {t : TypeId} (h : w.heap[b]? = some (.cells #[a0, a1, a2] t (0, 0))) : w.cell? ⟨b, 0, none⟩ = some a0 ∧ w.cell? ⟨b, 1, none⟩ = some a1 ∧ w.cell? ⟨b, 2, none⟩ = some a2 := ⟨by rw [blk_cell h]; rfl, by rw [blk_cell h]; rfl, by rw [blk_cell h]; rfl⟩
set_option maxRecDepth 100000 in
theorem timerNil_walk (o : OpT) (w : World) : Calls Try.prog 4 #[o.val] w (Rets fun r w' => r = .bool true ∧ Upd0 w w') := by
  obtain ⟨dO, nm, at_⟩ := o
  simp only [OpT.val]
  go_enter Try.func4, Try.ntmps4
  go_wp2_with (first
    | (go_at_call 8; (with_reducible refine (timer_no 0 (.inl (by decide)) _).use ?_); rintro v w1 ⟨rfl, hu1⟩; have b1 := Lib.hid (hu1.block (fun h => h) (alloc_last _ _ w.heap.size rfl)))
    | (go_at_call 17; (with_reducible refine (next_nil _).use ?_); rintro v w2 ⟨rfl, hu2⟩; have b2 := Lib.hid (hu2.block (fun h => h) b1.out); obtain ⟨a0, a1, a2⟩ := tcell3 b2.out)
    | (go_at_call 10; (with_reducible refine (set_nil _ _ _).use ?_); rintro v w3 ⟨rfl, hu3⟩; have b3 := Lib.hid (hu3.block (fun h => h) b2.out); obtain ⟨c0, c1, c2⟩ := tcell3 b3.out)
    | (go_at_call 12; (with_reducible refine (stop_nil _ _).use ?_); rintro v w4 ⟨rfl, hu4⟩; have b4 := Lib.hid (hu4.block (fun h => h) b3.out); obtain ⟨d0, d1, d2⟩ := tcell3 b4.out)
    | (go_at_call 14; (with_reducible refine (due_nil _ _).use ?_); rintro v w5 ⟨rfl, hu5⟩)
    | (go_at_call 18; (with_reducible refine (qlen_nil _).use ?_); rintro v w6 ⟨rfl, hu6⟩)
    | (go_at_call 9; (with_reducible refine (tlive_w _).use ?_); rintro v w7 ⟨rfl, hu7⟩)
    | (with_reducible refine wp_serial (by kernel_rfl) (by kernel_rfl) (by (repeat (first | (with_reducible apply NoBad.then) | (with_reducible apply NoBad.inBlock) | (with_reducible apply NoBad.jump) | (with_reducible exact NoBad.rets))); done) ?_) | fail)
  all_goals go_returns
  all_goals exact ⟨rfl, (by (repeat (first | (with_reducible exact Upd.refl _ _) | (with_reducible assumption) | (with_reducible apply Upd.drew) | (with_reducible apply Upd.alloc) | (refine Upd0.tr ?_ (by with_reducible assumption)) | (refine Upd.setCell ?_ (fun h => absurd h (by first | exact Nat.lt_irrefl _ | (simp only []; omega))) _))); done)⟩
/-! one timer alone -/
theorem one_set (x : Bs) (a : Int) (L : List Tm) (hL : L = [] ∨ ∃ b, L = [⟨x, b⟩]) (ha : 0 ≤ a) (hb : a ≤ 1000000) (hx : x.length ≤ 300) : setC 1 L x a = 0 ∧ setT 1 L x a = [⟨x, a⟩] := by
  have h1 : argT x a = false := by simp only [argT, Bool.or_eq_false_iff, decide_eq_false_iff_not]; omega
  have h2 : ¬ (hasL L x = false ∧ (1 : Int) ≤ L.length) := by
    rcases hL with rfl | ⟨b, rfl⟩
    · simp
    · simp [hasL]
  have h3 : setL L x a = [⟨x, a⟩] := by
    rcases hL with rfl | ⟨b, rfl⟩
    · rfl
    · simp [setL, stopL, insL]
  unfold setC setT
  rw [h1, if_neg h2, if_neg h2]
  exact ⟨rfl, h3⟩
theorem set1_w (t bm : Nat) (L : List Tm) (x : Bs) (a : Int) (hL : L = [] ∨ ∃ b, L = [⟨x, b⟩]) (ha : 0 ≤ a) (hb : a ≤ 1000000) (hx : x.length ≤ 300) (w : World) (h : Qu w t bm 1 L) : Calls Try.prog 10 #[.pointer (some ⟨t, 0, none⟩), .string ⟨x.toArray⟩, .int .i64 a] w (Rets fun r w' =>
    r = .int .i64 0 ∧ Upd (fun b => b = bm) w w' ∧ Qu w' t bm 1 [⟨x, a⟩]) := by
  have := set_w t bm 1 L x a (by unfold maxLen; omega) w h
  rwa [(one_set x a L hL ha hb hx).1, (one_set x a L hL ha hb hx).2] at this
theorem due1_w (t bm : Nat) (L L' : List Tm) (N : List Bs) (n : Nat) (now : Int) (hN : dueN L now = N) (hn : N.length = n) (hT : dueL L now = L') (w : World) (h : Qu w t bm 1 L) : Calls Try.prog 14 #[.pointer (some ⟨t, 0, none⟩), .int .i64 now] w (Rets fun r w' =>
    ∃ ao cap, r = .slice ao n cap ∧ SR w' ao N ∧ Upd (fun b => b = bm) w w' ∧ Qu w' t bm 1 L') := by
  have := due_w t bm 1 L now w h
  rwa [hN, hT, hn] at this
theorem stop1_w (t bm : Nat) (x : Bs) (a : Int) (hx : x.length ≤ 300) (w : World) (h : Qu w t bm 1 [⟨x, a⟩]) : Calls Try.prog 12 #[.pointer (some ⟨t, 0, none⟩), .string ⟨x.toArray⟩] w (Rets fun r w' =>
    r = .bool true ∧ Upd (fun b => b = bm) w w' ∧ Qu w' t bm 1 []) := by
  have := stop_w t bm 1 [⟨x, a⟩] x (by unfold maxLen; omega) w h
  rwa [show hasL [⟨x, a⟩] x = true by simp [hasL], show stopL [⟨x, a⟩] x = [] by simp [stopL]] at this
set_option maxRecDepth 100000 in
set_option maxHeartbeats 2000000 in
theorem timerMoves_walk (x : Bs) (one two : Int) (w : World) : Calls Try.prog 6 #[.string ⟨x.toArray⟩, .int .i64 one, .int .i64 two] w (Rets fun r w' => r = .bool true ∧ Upd0 w w') := by
  by_cases hok : x.length ≤ 300 ∧ 0 ≤ one ∧ 0 ≤ two ∧ one ≤ 1000000 ∧ two ≤ 1000000
  case neg =>
    have hbad : 300 < x.length ∨ (¬ 300 < x.length ∧ one < 0) ∨ (¬ 300 < x.length ∧ ¬ one < 0 ∧ two < 0) ∨ (¬ 300 < x.length ∧ ¬ one < 0 ∧ ¬ two < 0 ∧ 1000000 < one) ∨ (¬ 300 < x.length ∧ ¬ one < 0 ∧ ¬ two < 0 ∧ ¬ 1000000 < one ∧ 1000000 < two) := by omega
    clear hok
    rcases hbad with h1 | ⟨h1, h2⟩ | ⟨h1, h2, h3⟩ | ⟨h1, h2, h3, h4⟩ | ⟨h1, h2, h3, h4, h5⟩
    all_goals
      go_enter Try.func6, Try.ntmps6
      go_wp2_with (first
        | (go_at_call 9; (with_reducible refine (tlive_w _).use ?_); rintro v w7 ⟨rfl, hu7⟩)
        | (with_reducible refine wp_serial (by kernel_rfl) (by kernel_rfl) (by (repeat (first | (with_reducible apply NoBad.then) | (with_reducible apply NoBad.inBlock) | (with_reducible apply NoBad.jump) | (with_reducible exact NoBad.rets))); done) ?_) | fail)
      all_goals go_returns
      all_goals exact ⟨rfl, (by (repeat (first | (with_reducible exact Upd.refl _ _) | (with_reducible assumption) | (with_reducible apply Upd.drew) | (with_reducible apply Upd.alloc) | (refine Upd0.tr ?_ (by with_reducible assumption)) | (refine Upd.setCell ?_ (fun h => absurd h (by first | exact Nat.lt_irrefl _ | (simp only []; omega))) _))); done)⟩
  obtain ⟨h1, h2, h3, h4, h5⟩ := hok
  have g1 : ¬ 300 < x.length := by omega
  have g2 : ¬ one < 0 := by omega
  have g3 : ¬ two < 0 := by omega
  have g4 : ¬ 1000000 < one := by omega
  have g5 : ¬ 1000000 < two := by omega
  have hw : wrap64 (two - 1) = two - 1 := by simp only [wrap64]; omega
  have e1 := Lib.hid (show dueN [⟨x, two⟩] (two - 1) = [] ∧ dueL [⟨x, two⟩] (two - 1) = [⟨x, two⟩] by simp [dueN, dueL, show ¬ two ≤ two - 1 by omega])
  have e2 := Lib.hid (show dueN [⟨x, two⟩] two = [x] ∧ dueL [⟨x, two⟩] two = [] by simp [dueN, dueL])
  have P1 := Lib.hid (fun (t bm : Nat) => set1_w t bm [] x one (.inl rfl) h2 h4 h1)
  have P2 := Lib.hid (fun (t bm : Nat) => set1_w t bm [⟨x, one⟩] x two (.inr ⟨one, rfl⟩) h3 h5 h1)
  have P3 := Lib.hid (fun (t bm : Nat) => due1_w t bm [⟨x, two⟩] [⟨x, two⟩] [] 0 (two - 1) e1.out.1 rfl e1.out.2)
  have P4 := Lib.hid (fun (t bm : Nat) => due1_w t bm [⟨x, two⟩] [] [x] 1 two e2.out.1 rfl e2.out.2)
  have P6 := Lib.hid (fun (t bm : Nat) => stop1_w t bm x one h1)
  have P7 := Lib.hid (fun (t bm : Nat) => due1_w t bm [] [] [] 0 one rfl rfl rfl)
  have tk1 : True := trivial
  have tk2 : True := trivial
  have tk3 : True := trivial
  have tk4 : True := trivial
  clear h1 h2 h3 h4 h5
  go_enter Try.func6, Try.ntmps6
  go_wp2_with (first
    | (go_at_call 8; (with_reducible refine (timer_new 1 (by decide) (by decide) _).use ?_); rintro v w1 ⟨t, bm, rfl, htl, hbl, hu1, hq1⟩; have k1 := Lib.hid hq1; clear hq1)
    | (go_at_call 10; have _t := tk1; (with_reducible refine (P1.out t bm _ k1.out).use ?_); rintro v w2 ⟨rfl, hu2, hq2⟩; have k2 := Lib.hid hq2; have U2 : Upd0 w w2 := UpdT.fin hu1 hbl hu2; clear hq2 tk1 _t)
    | (go_at_call 10; have _t := tk2; (with_reducible refine (P2.out t bm _ k2.out).use ?_); rintro v w3 ⟨rfl, hu3, hq3⟩; have k3 := Lib.hid hq3; have U3 : Upd0 w w3 := UpdT.fin U2 hbl hu3; clear hq3 tk2 _t)
    | (go_at_call 14; have _t := tk3; (with_reducible refine (P3.out t bm _ k3.out).use ?_); rintro v w4 ⟨ao4, cap4, rfl, hs4, hu4, hq4⟩; have k4 := Lib.hid hq4; have U4 : Upd0 w w4 := UpdT.fin U3 hbl hu4; clear hq4 hs4 tk3 _t)
    | (go_at_call 14; have _t := tk4; (with_reducible refine (P4.out t bm _ k4.out).use ?_); rintro v w5 ⟨ao5, cap5, rfl, hs5, hu5, hq5⟩; have k5 := Lib.hid hq5; have s5 := Lib.hid hs5; have U5 : Upd0 w w5 := UpdT.fin U4 hbl hu5; clear hq5 hs5 tk4 _t)
    | (go_at_call 10; (with_reducible refine (P1.out t bm _ k5.out).use ?_); rintro v w6 ⟨rfl, hu6, hq6⟩; have k6 := Lib.hid hq6; have U6 : Upd0 w w6 := UpdT.fin U5 hbl hu6; have s6 := Lib.hid (sr_upd s5.out hu6 (sr_ne s5.out (by simp) k5.out.own.blk.choose_spec.choose_spec)); clear hq6)
    | (go_at_call 12; (with_reducible refine (P6.out t bm _ k6.out).use ?_); rintro v w7 ⟨rfl, hu7, hq7⟩; have k7 := Lib.hid hq7; have U7 : Upd0 w w7 := UpdT.fin U6 hbl hu7; have s7 := Lib.hid (sr_upd s6.out hu7 (sr_ne s6.out (by simp) k6.out.own.blk.choose_spec.choose_spec)); clear hq7)
    | (go_at_call 14; (with_reducible refine (P7.out t bm _ k7.out).use ?_); rintro v w8 ⟨ao8, cap8, rfl, hs8, hu8, hq8⟩; have U8 : Upd0 w w8 := UpdT.fin U7 hbl hu8; have s8 := sr_upd s7.out hu8 (sr_ne s7.out (by simp) k7.out.own.blk.choose_spec.choose_spec); obtain ⟨g8, o8, rfl, hg8, hc8⟩ := s8.some (k := 0) (by simp); have hx8 := hc8 0 x rfl; rw [Nat.add_zero] at hx8; clear hc8 hq8 hs8 s8)
    | (go_at_call 9; (with_reducible refine (tlive_w _).use ?_); rintro v w9 ⟨rfl, hu9⟩)
    | (with_reducible refine wp_serial (by kernel_rfl) (by kernel_rfl) (by (repeat (first | (with_reducible apply NoBad.then) | (with_reducible apply NoBad.inBlock) | (with_reducible apply NoBad.jump) | (with_reducible exact NoBad.rets))); done) ?_) | fail)
  all_goals go_returns
  all_goals exact ⟨rfl, (by (repeat (first | (with_reducible exact Upd.refl _ _) | (with_reducible assumption) | (with_reducible apply Upd.drew) | (with_reducible apply Upd.alloc) | (refine Upd0.tr ?_ (by with_reducible assumption)) | (refine Upd.setCell ?_ (fun h => absurd h (by first | exact Nat.lt_irrefl _ | (simp only []; omega))) _))); done)⟩
end Go.Proofs.Ytkkncnffkmopbaa
