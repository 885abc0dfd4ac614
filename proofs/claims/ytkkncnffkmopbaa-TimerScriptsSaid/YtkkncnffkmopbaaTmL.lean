/-
  Some answers that the document gives of timers.
-/
import Derived.Test.YtkkncnffkmopbaaTmD
namespace Go.Proofs.Ytkkncnffkmopbaa
open Go.RowKit Go.Maps
set_option linter.unusedSimpArgs false
set_option linter.unusedVariables false
theorem lvs (t bm : Nat) (L L' : List Tm) (x : Bs) (a c : Int) (hx : x.length ≤ maxLen) (hc : setC 3 L x a = c) (hT : setT 3 L x a = L') (w : World) (h : Qu w t bm 3 L) : Calls Try.prog 10 #[.pointer (some ⟨t, 0, none⟩), .string ⟨x.toArray⟩, .int .i64 a] w (Rets fun r w' =>
    r = .int .i64 c ∧ Upd (fun b => b = bm) w w' ∧ Qu w' t bm 3 L') := by
  have := set_w t bm 3 L x a hx w h
  rwa [hc, hT] at this
theorem lvp (t bm : Nat) (L L' : List Tm) (x : Bs) (b : Bool) (hx : x.length ≤ maxLen) (hc : hasL L x = b) (hT : stopL L x = L') (w : World) (h : Qu w t bm 3 L) : Calls Try.prog 12 #[.pointer (some ⟨t, 0, none⟩), .string ⟨x.toArray⟩] w (Rets fun r w' =>
    r = .bool b ∧ Upd (fun b => b = bm) w w' ∧ Qu w' t bm 3 L') := by
  have := stop_w t bm 3 L x hx w h
  rwa [hc, hT] at this
theorem lvd (t bm : Nat) (L L' : List Tm) (N : List Bs) (n : Nat) (now : Int) (hN : dueN L now = N) (hn : N.length = n) (hT : dueL L now = L') (w : World) (h : Qu w t bm 3 L) : Calls Try.prog 14 #[.pointer (some ⟨t, 0, none⟩), .int .i64 now] w (Rets fun r w' =>
    ∃ ao cap, r = .slice ao n cap ∧ SR w' ao N ∧ Upd (fun b => b = bm) w w' ∧ Qu w' t bm 3 L') := by
  have := due_w t bm 3 L now w h
  rwa [hN, hT, hn] at this
theorem lvt (ao bo : Option Addr) (ca cb : Nat) (w : World) (hL : SR w ao [[97], [98]]) (hM : SR w bo [[97], [98]]) : Calls Try.prog 15 #[.slice ao 2 ca, .slice bo 2 cb] w (Rets fun r w' => r = .bool true ∧ Upd0 w w') :=
  rtexts2_w ao bo ca cb [[97], [98]] [[97], [98]] w hL hM (by decide) (by decide)
theorem lvl (t bm : Nat) (L : List Tm) (n : Int) (hn : (L.length : Int) = n) (w : World) (h : Qu w t bm 3 L) : Calls Try.prog 18 #[.pointer (some ⟨t, 0, none⟩)] w (Rets fun r w' => r = .int .i64 n ∧ Upd0 w w') := by
  have := qlen_w t bm 3 L w h
  rwa [hn] at this
theorem lvn (t bm : Nat) (w : World) (h : Qu w t bm 3 [⟨[97], 5⟩, ⟨[98], 5⟩, ⟨[99], 7⟩]) : Calls Try.prog 17 #[.pointer (some ⟨t, 0, none⟩)] w (Rets fun r w' => r = .tuple #[.string ⟨#[97]⟩, .int .i64 5, .bool true] ∧ Upd0 w w') := next_w t bm 3 _ w h
theorem sr_two {w : World} {g : Nat} (h : w.heap[g]? = some (.cells #[.string ⟨#[97]⟩, .string ⟨#[98]⟩] 9 (0, 0))) : SR w (some ⟨g, 0, none⟩) [[97], [98]] := by
  refine .inr ⟨g, 0, rfl, blk_lt h, fun i x hx => ?_⟩
  rw [blk_cell h]
  match i, hx with
  | 0, hx => cases hx; rfl
  | 1, hx => cases hx; rfl
  | n + 2, hx => simp at hx
set_option maxRecDepth 100000 in
set_option maxHeartbeats 2000000 in
theorem tlive_w (w : World) : Calls Try.prog 9 #[] w (Rets fun r w' => r = .bool true ∧ Upd0 w w') := by
  have tk1 : True := trivial
  have tk3 : True := trivial
  have tk4 : True := trivial
  have tk5 : True := trivial
  have tk6 : True := trivial
  have tk7 : True := trivial
  have tkc : True := trivial
  go_enter Try.func9, Try.ntmps9
  go_wp2_with (first
    | (go_at_call 8; have _t := tk1; (with_reducible refine (timer_new 3 (by decide) (by decide) _).use ?_); rintro v w1 ⟨t, bm, rfl, htl, hbl, hu1, hq1⟩; have k1 := Lib.hid hq1; have y1 := hu1.size; clear hq1 tk1 _t)
    | (go_at_call 8; (with_reducible refine (timer_no 0 (.inl (by decide)) _).use ?_); rintro v w2 ⟨rfl, hu2⟩; have k2 := Lib.hid (k1.out.up hu2); have U2 : Upd0 w w2 := (by (repeat (first | (with_reducible exact Upd.refl _ _) | (with_reducible assumption) | (with_reducible apply Upd.drew) | (with_reducible apply Upd.alloc) | (refine Upd0.tr ?_ (by with_reducible assumption)) | (refine Upd.setCell ?_ (fun h => absurd h (by first | exact Nat.lt_irrefl _ | (simp only []; omega))) _))); done))
    | (go_at_call 10; have _t := tk3; (with_reducible refine (lvs t bm [] [⟨[98], 5⟩] [98] 5 0 (by decide) (by kernel_rfl) (by kernel_rfl) _ k2.out).use ?_); rintro v w3 ⟨rfl, hu3, hq3⟩; have k3 := Lib.hid hq3; have U3 : Upd0 w w3 := UpdT.fin U2 hbl hu3; clear hq3 tk3 _t)
    | (go_at_call 10; have _t := tk4; (with_reducible refine (lvs t bm [⟨[98], 5⟩] [⟨[98], 5⟩, ⟨[97], 9⟩] [97] 9 0 (by decide) (by kernel_rfl) (by kernel_rfl) _ k3.out).use ?_); rintro v w4 ⟨rfl, hu4, hq4⟩; have k4 := Lib.hid hq4; have U4 : Upd0 w w4 := UpdT.fin U3 hbl hu4; clear hq4 tk4 _t)
    | (go_at_call 10; have _t := tk5; (with_reducible refine (lvs t bm [⟨[98], 5⟩, ⟨[97], 9⟩] [⟨[98], 5⟩, ⟨[99], 7⟩, ⟨[97], 9⟩] [99] 7 0 (by decide) (by kernel_rfl) (by kernel_rfl) _ k4.out).use ?_); rintro v w5 ⟨rfl, hu5, hq5⟩; have k5 := Lib.hid hq5; have U5 : Upd0 w w5 := UpdT.fin U4 hbl hu5; clear hq5 tk5 _t)
    | (go_at_call 10; have _t := tk6; (with_reducible refine (lvs t bm [⟨[98], 5⟩, ⟨[99], 7⟩, ⟨[97], 9⟩] [⟨[98], 5⟩, ⟨[99], 7⟩, ⟨[97], 9⟩] [100] 1 4 (by decide) (by kernel_rfl) (by kernel_rfl) _ k5.out).use ?_); rintro v w6 ⟨rfl, hu6, hq6⟩; have k6 := Lib.hid hq6; have U6 : Upd0 w w6 := UpdT.fin U5 hbl hu6; clear hq6 tk6 _t)
    | (go_at_call 10; have _t := tk7; (with_reducible refine (lvs t bm [⟨[98], 5⟩, ⟨[99], 7⟩, ⟨[97], 9⟩] [⟨[97], 5⟩, ⟨[98], 5⟩, ⟨[99], 7⟩] [97] 5 0 (by decide) (by kernel_rfl) (by kernel_rfl) _ k6.out).use ?_); rintro v w7 ⟨rfl, hu7, hq7⟩; have k7 := Lib.hid hq7; have U7 : Upd0 w w7 := UpdT.fin U6 hbl hu7; clear hq7 tk7 _t)
    | (go_at_call 17; (with_reducible refine (lvn t bm _ k7.out).use ?_); rintro v w8 ⟨rfl, hu8⟩; have k8 := Lib.hid (k7.out.up hu8); have U8 : Upd0 w w8 := U7.tr hu8)
    | (go_at_call 14; (with_reducible refine (lvd t bm [⟨[97], 5⟩, ⟨[98], 5⟩, ⟨[99], 7⟩] [⟨[99], 7⟩] [[97], [98]] 2 6 (by kernel_rfl) rfl (by kernel_rfl) _ k8.out).use ?_); rintro v w9 ⟨ao, cap, rfl, hs9, hu9, hq9⟩; have k9 := Lib.hid hq9; have s9 := Lib.hid hs9; have U9 : Upd0 w w9 := UpdT.fin U8 hbl hu9; clear hq9 hs9)
    | (go_at_call 15; (with_reducible refine (lvt ao _ cap 2 _ (s9.out.up (by (repeat (first | (with_reducible exact Upd.refl _ _) | (with_reducible assumption) | (with_reducible apply Upd.drew) | (with_reducible apply Upd.alloc) | (refine Upd0.tr ?_ (by with_reducible assumption)) | (refine Upd.setCell ?_ (fun h => absurd h (by first | exact Nat.lt_irrefl _ | (simp only []; omega))) _))); done)) (sr_two (alloc_last _ _ _ rfl))).use ?_); rintro v wa ⟨rfl, hua⟩; have Ua9 : Upd0 w9 wa := (by (repeat (first | (with_reducible exact Upd.refl _ _) | (with_reducible assumption) | (with_reducible apply Upd.drew) | (with_reducible apply Upd.alloc) | (refine Upd0.tr ?_ (by with_reducible assumption)) | (refine Upd.setCell ?_ (fun h => absurd h (by first | exact Nat.lt_irrefl _ | (simp only []; omega))) _))); done); have ka := Lib.hid (k9.out.up Ua9); have Ua : Upd0 w wa := U9.tr Ua9)
    | (go_at_call 18; (with_reducible refine (lvl t bm [⟨[99], 7⟩] 1 rfl _ ka.out).use ?_); rintro v wb ⟨rfl, hub⟩; have kb := Lib.hid (ka.out.up hub); have Ub : Upd0 w wb := Ua.tr hub)
    | (go_at_call 12; have _t := tkc; (with_reducible refine (lvp t bm [⟨[99], 7⟩] [] [99] true (by decide) (by kernel_rfl) (by kernel_rfl) _ kb.out).use ?_); rintro v wc ⟨rfl, huc, hqc⟩; have kc := Lib.hid hqc; have Uc : Upd0 w wc := UpdT.fin Ub hbl huc; clear hqc tkc _t)
    | (go_at_call 12; (with_reducible refine (lvp t bm [] [] [99] false (by decide) (by kernel_rfl) (by kernel_rfl) _ kc.out).use ?_); rintro v wd ⟨rfl, hud, hqd⟩; have Ud : Upd0 w wd := UpdT.fin Uc hbl hud)
    | (with_reducible refine wp_serial (by kernel_rfl) (by kernel_rfl) (by (repeat (first | (with_reducible apply NoBad.then) | (with_reducible apply NoBad.inBlock) | (with_reducible apply NoBad.jump) | (with_reducible exact NoBad.rets))); done) ?_) | fail)
  all_goals go_returns
  all_goals exact ⟨rfl, Ud⟩
end Go.Proofs.Ytkkncnffkmopbaa
