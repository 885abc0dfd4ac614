/-
  The walk of CacheRanks: of two sets of one name and type the one that is believed more is told.
-/
import Derived.Test.YtijmbpokglohbaaCaN
namespace Go.Proofs.Ytijmbpokglohbaa
open Go.RowKit Go.Maps
set_option linter.unusedSimpArgs false
set_option linter.unusedVariables false
variable {B : Nat}
def rkC0 : CS := ⟨5, 100, 0, []⟩
def rkS1 : St := ⟨[1, 97], 1, 9, [[49, 49, 49, 49]]⟩
def rkS2 : St := ⟨[1, 97], 1, 9, [[50, 50, 50, 50]]⟩
theorem rkM1 : mayS rkS1 = true := by decide +kernel
theorem rkM2 : mayS rkS2 = true := by decide +kernel
theorem rkF1 : fewS rkS1 = true := by decide +kernel
theorem rkF2 : fewS rkS2 = true := by decide +kernel
theorem rkC0_ok : COk rkC0 := empty_ok 5 100 (by decide) (by decide) (by decide) (by decide)
theorem putS_N (c : CS) (s : St) (rk now : Int) : (putS c s rk now).N ≤ c.N + 1 := by
  unfold putS putZ
  split
  · split
    · omega
    · split
      · simp only []; omega
      · exact Int.le_refl _
  · omega
def rkE1 (one : Int) : CE := ⟨[1, 97], 1, 9, [[49, 49, 49, 49]], one, 9, 1⟩
def rkE2 (two n : Int) : CE := ⟨[1, 97], 1, 9, [[50, 50, 50, 50]], two, 10, n⟩
theorem rk_no (c : CS) (s : St) (rk now : Int) (h : ¬ (1 ≤ rk ∧ rk ≤ 5)) : putI c s rk now = 1 ∧ putS c s rk now = c := by
  have hb : putB s rk now = false := by
    cases hb : putB s rk now
    · rfl
    · simp only [putB, Bool.and_eq_true, decide_eq_true_eq] at hb
      exact absurd hb.2.1 h
  exact ⟨by rw [putI, hb, if_neg (by decide)], by rw [putS, hb, if_neg (by decide)]⟩
theorem rkB {s : St} (hm : mayS s = true) {rk now : Int} (h : 1 ≤ rk ∧ rk ≤ 5) (h2 : 0 ≤ now ∧ now ≤ 1099511627776) : putB s rk now = true := by
  simp [putB, hm, h, h2]
theorem rk_1 (one : Int) (h : 1 ≤ one ∧ one ≤ 5) : putI rkC0 rkS1 one 0 = 0 ∧ putS rkC0 rkS1 one 0 = ⟨5, 100, 1, [rkE1 one]⟩ := by
  have hb := rkB rkM1 h (show (0 : Int) ≤ 0 ∧ (0 : Int) ≤ 1099511627776 by decide)
  have hd : denyB rkC0.L rkS1 one 0 = false := rfl
  refine ⟨by rw [putI, hb, if_pos rfl, hd, if_neg (by decide)], ?_⟩
  rw [putS, hb, if_pos rfl, hd, if_neg (by decide)]
  rfl
theorem rk_2 (two : Int) (h : 1 ≤ two ∧ two ≤ 5) : putI rkC0 rkS2 two 1 = 0 ∧ putS rkC0 rkS2 two 1 = ⟨5, 100, 1, [rkE2 two 1]⟩ := by
  have hb := rkB rkM2 h (show (0 : Int) ≤ 1 ∧ (1 : Int) ≤ 1099511627776 by decide)
  have hd : denyB rkC0.L rkS2 two 1 = false := rfl
  refine ⟨by rw [putI, hb, if_pos rfl, hd, if_neg (by decide)], ?_⟩
  rw [putS, hb, if_pos rfl, hd, if_neg (by decide)]
  rfl
theorem rk_less' (one two : Int) (h : 1 ≤ two ∧ two ≤ 5) (hl : two < one) : putI ⟨5, 100, 1, [rkE1 one]⟩ rkS2 two 1 = 9 ∧ putS ⟨5, 100, 1, [rkE1 one]⟩ rkS2 two 1 = ⟨5, 100, 1, [rkE1 one]⟩ := by
  have hb := rkB rkM2 h (show (0 : Int) ≤ 1 ∧ (1 : Int) ≤ 1099511627776 by decide)
  have hd : denyB [rkE1 one] rkS2 two 1 = true := by
    have hk : isK rkS2.nm rkS2.ty (rkE1 one) = true := isK_iff.2 ⟨rfl, rfl⟩
    simp only [denyB, List.find?_cons_of_pos hk, Option.any_some, Bool.and_eq_true, decide_eq_true_eq]
    exact ⟨by simp [rkE1], hl⟩
  exact ⟨by rw [putI, hb, if_pos rfl, hd, if_pos rfl], by rw [putS, hb, if_pos rfl, hd, if_pos rfl]⟩
theorem rk_more' (one two : Int) (h : 1 ≤ two ∧ two ≤ 5) (hl : one ≤ two) : putI ⟨5, 100, 1, [rkE1 one]⟩ rkS2 two 1 = 0 ∧ putS ⟨5, 100, 1, [rkE1 one]⟩ rkS2 two 1 = ⟨5, 100, 2, [rkE2 two 2]⟩ := by
  have hb := rkB rkM2 h (show (0 : Int) ≤ 1 ∧ (1 : Int) ≤ 1099511627776 by decide)
  have hk : isK rkS2.nm rkS2.ty (rkE1 one) = true := isK_iff.2 ⟨rfl, rfl⟩
  have hd : denyB [rkE1 one] rkS2 two 1 = false := by
    simp only [denyB, List.find?_cons_of_pos hk, Option.any_some]
    rw [decide_eq_false (show ¬ two < (rkE1 one).rk by simp only [rkE1]; omega), Bool.and_false]
  refine ⟨by rw [putI, hb, if_pos rfl, hd, if_neg (by decide)], ?_⟩
  rw [putS, hb, if_pos rfl, hd, if_neg (by decide)]
  have hdr : dropK [rkE1 one] rkS2.nm rkS2.ty = [] := by
    rw [dropK, List.filter_cons_of_neg (by rw [hk]; decide)]; rfl
  rw [putZ, if_neg (by decide), hdr]
  rfl
/-- what Get gives, whatever it is -/
theorem cget_any (t : Nat) (c : CS) (nm : Bs) (ty now : Int) (w : World) (hok : COk c) (hN : c.N ≤ 1000000) (hn : nm.length ≤ 70000) (hty : (Lit.int .i64 ty).wf = true) (hB : B ≤ w.heap.size) (h : Ca B w t c) :
    Calls Try.prog 36 #[.pointer (some ⟨t, 0, none⟩), .string ⟨nm.toArray⟩, .int .i64 ty, .int .i64 now] w (Rets fun r w' => ∃ (n2 : Bs) (y2 t2 : Int) (ao : Option Addr) (l cap : Nat) (k2 : Int) (b : Bool), r = .tuple #[.agg #[.string ⟨n2.toArray⟩, .int .i64 y2, .int .i64 t2, .slice ao l cap], .int .i64 k2, .bool b] ∧ UpdQ B w w') := by
  refine (cget_w t c nm ty now w hok hN hn hty hB h).use fun v w' hg => ?_
  unfold GetP at hg
  cases hh : hitB c nm ty now with
  | none => rw [hh] at hg; exact ⟨[], 0, 0, none, 0, 0, 0, false, hg.1, UpdQ.of0 hg.2⟩
  | some e => rw [hh] at hg; obtain ⟨ao, cap, h1, h2, _⟩ := hg; exact ⟨_, _, _, ao, _, cap, _, true, h1, h2⟩
theorem put_1 (t g : Nat) (c : CS) (one : Int) (f : Int) (c1 : CS) (hok : COk c) (hN : c.N ≤ 1000) (hf : putI c rkS1 one 0 = f ∧ putS c rkS1 one 0 = c1) (w : World) (hB : B ≤ w.heap.size) (h : Ca B w t c) (hd : DR w (some ⟨g, 0, none⟩) [[49, 49, 49, 49]]) :
    Calls Try.prog 34 #[.pointer (some ⟨t, 0, none⟩), .agg #[.string ⟨#[1, 97]⟩, .int .i64 1, .int .i64 9, .slice (some ⟨g, 0, none⟩) 1 1], .int .i64 one, .int .i64 0] w (Rets fun r w' => r = .int .i64 f ∧ UpdQ B w w' ∧ Ca B w' t c1) := by
  have h1 := cput_w t c rkS1 (some ⟨g, 0, none⟩) 1 one 0 w hok (by omega) rkF1 hB h (Stay.dr hd)
  rw [hf.1, hf.2] at h1
  exact h1
theorem put_2 (t g : Nat) (c : CS) (two : Int) (f : Int) (c1 : CS) (hok : COk c) (hN : c.N ≤ 1000) (hf : putI c rkS2 two 1 = f ∧ putS c rkS2 two 1 = c1) (w : World) (hB : B ≤ w.heap.size) (h : Ca B w t c) (hd : DR w (some ⟨g, 0, none⟩) [[50, 50, 50, 50]]) :
    Calls Try.prog 34 #[.pointer (some ⟨t, 0, none⟩), .agg #[.string ⟨#[1, 97]⟩, .int .i64 1, .int .i64 9, .slice (some ⟨g, 0, none⟩) 1 1], .int .i64 two, .int .i64 1] w (Rets fun r w' => r = .int .i64 f ∧ UpdQ B w w' ∧ Ca B w' t c1) := by
  have h1 := cput_w t c rkS2 (some ⟨g, 0, none⟩) 1 two 1 w hok (by omega) rkF2 hB h (Stay.dr hd)
  rw [hf.1, hf.2] at h1
  exact h1
theorem rk_hit1 (one : Int) : hitB ⟨5, 100, 1, [rkE1 one]⟩ [1, 97] 1 2 = some (rkE1 one) := by
  have hf : fold [1, 97] = [1, 97] := by decide +kernel
  have hk : isK [1, 97] 1 (rkE1 one) = true := isK_iff.2 ⟨rfl, rfl⟩
  rw [hitB, if_pos (by decide), hf]
  simp only [List.find?_cons_of_pos hk]
  rfl
theorem rk_hit2 (two : Int) : hitB ⟨5, 100, 2, [rkE2 two 2]⟩ [1, 97] 1 2 = some (rkE2 two 2) := by
  have hf : fold [1, 97] = [1, 97] := by decide +kernel
  have hk : isK [1, 97] 1 (rkE2 two 2) = true := isK_iff.2 ⟨rfl, rfl⟩
  rw [hitB, if_pos (by decide), hf]
  simp only [List.find?_cons_of_pos hk]
  rfl
-- WALK
theorem rk1_ok (one : Int) : COk (putS rkC0 rkS1 one 0) := putS_ok rkC0_ok rkF1
set_option maxRecDepth 100000 in
set_option maxHeartbeats 4000000 in
theorem rk_ll (one two : Int) (a1 : one < 1) (a2 : two < 1) (c1 c2 : CS) (hf : putI rkC0 rkS1 one 0 = 1 ∧ putS rkC0 rkS1 one 0 = c1) (hg : putI c1 rkS2 two 1 = 1 ∧ putS c1 rkS2 two 1 = c2) (w : World) : Calls Try.prog 14 #[.int .i64 one, .int .i64 two] w (Rets fun r w' => r = .bool true ∧ Upd0 w w') := by
  have hok1 : COk c1 := by rw [← hf.2]; exact putS_ok rkC0_ok rkF1
  have hN1 : c1.N ≤ 1000 := by rw [← hf.2]; exact Int.le_trans (putS_N _ _ _ _) (by decide)
  have hok2 : COk c2 := by rw [← hg.2]; exact putS_ok hok1 rkF2
  have hN2 : c2.N ≤ 1000000 := by rw [← hg.2]; have h1 := putS_N c1 rkS2 two 1; omega
  have hP1 := Lib.hid (fun (t g : Nat) (w' : World) => put_1 (B := w.heap.size) t g rkC0 one 1 c1 rkC0_ok (by decide) hf w')
  have hP2 := Lib.hid (fun (t g : Nat) (w' : World) => put_2 (B := w.heap.size) t g c1 two 1 c2 hok1 hN1 hg w')
  have hG := Lib.hid (fun (t : Nat) (w' : World) => cget_any (B := w.heap.size) t c2 [1, 97] 1 2 w' hok2 hN2 (by decide) (by decide))
  clear hf hg hok1 hN1 hok2 hN2
  have ta1 : True := trivial
  have tk1 : True := trivial
  go_enter Try.func14, Try.ntmps14
  go_wp2_with
    (first
    | (go_at_call 31; (with_reducible refine (cnew_w 5 100 (by decide) (by decide) (by decide) (by decide) _).use ?_); rintro v wn ⟨t, rfl, hun, hcn⟩; have Cn := Lib.hid (show Ca w.heap.size wn t rkC0 from hcn); have zn := hun.size; clear hcn)
    | (go_at_call 42; have _t := ta1; (with_reducible refine (a_w [1, 97] 9 [49, 49, 49, 49] _).use ?_); rintro v x1 ⟨g1, rfl, hd1, hv1⟩; have V1 : Upd0 w x1 := hun.tr (show Upd0 wn x1 from (by repeat first | with_reducible (first | exact Upd.refl _ _ | assumption | apply Upd.drew | apply Upd.alloc) | refine Upd0.tr ?_ (by with_reducible assumption) | refine Upd.setCell ?_ (fun h => absurd h (by first | exact Nat.lt_irrefl _ | (simp only []; omega))) _)); have D1 := Lib.hid (Cn.out.to0 (show Upd0 wn x1 from (by repeat first | with_reducible (first | exact Upd.refl _ _ | assumption | apply Upd.drew | apply Upd.alloc) | refine Upd0.tr ?_ (by with_reducible assumption) | refine Upd.setCell ?_ (fun h => absurd h (by first | exact Nat.lt_irrefl _ | (simp only []; omega))) _))); have e1 := Lib.hid hd1; have q1 := V1.size; clear ta1 _t hd1)
    | (go_at_call 34; have _t := tk1; (with_reducible refine (hP1.out t g1 _ q1 D1.out e1.out).use ?_); rintro v w1 ⟨rfl, hq1, hc1⟩; have U1 : Upd0 w w1 := UpdQ.fin V1 hq1; have C1 := Lib.hid hc1; have z1 := U1.size; clear tk1 _t hc1)
    | (go_at_call 42; (with_reducible refine (a_w [1, 97] 9 [50, 50, 50, 50] _).use ?_); rintro v x2 ⟨g2, rfl, hd2, hv2⟩; have V2 : Upd0 w x2 := U1.tr (show Upd0 w1 x2 from (by repeat first | with_reducible (first | exact Upd.refl _ _ | assumption | apply Upd.drew | apply Upd.alloc) | refine Upd0.tr ?_ (by with_reducible assumption) | refine Upd.setCell ?_ (fun h => absurd h (by first | exact Nat.lt_irrefl _ | (simp only []; omega))) _)); have D2 := Lib.hid (C1.out.to0 (show Upd0 w1 x2 from (by repeat first | with_reducible (first | exact Upd.refl _ _ | assumption | apply Upd.drew | apply Upd.alloc) | refine Upd0.tr ?_ (by with_reducible assumption) | refine Upd.setCell ?_ (fun h => absurd h (by first | exact Nat.lt_irrefl _ | (simp only []; omega))) _))); have e2 := Lib.hid hd2; have q2 := V2.size; clear hd2)
    | (go_at_call 34; (with_reducible refine (hP2.out t g2 _ q2 D2.out e2.out).use ?_); rintro v w2 ⟨rfl, hq2, hc2⟩; have U2 : Upd0 w w2 := UpdQ.fin V2 hq2; have C2 := Lib.hid hc2; have z2 := U2.size; clear hc2)
    | (go_at_call 36; (with_reducible refine Calls.use (hG.out t _ (Nat.le_trans U2.size (Upd.size (w := w2) (S := fun _ => False) (by repeat first | with_reducible (first | exact Upd.refl _ _ | assumption | apply Upd.drew | apply Upd.alloc) | refine Upd0.tr ?_ (by with_reducible assumption) | refine Upd.setCell ?_ (fun h => absurd h (by first | exact Nat.lt_irrefl _ | (simp only []; omega))) _))) (C2.out.to0 (by repeat first | with_reducible (first | exact Upd.refl _ _ | assumption | apply Upd.drew | apply Upd.alloc) | refine Upd0.tr ?_ (by with_reducible assumption) | refine Upd.setCell ?_ (fun h => absurd h (by first | exact Nat.lt_irrefl _ | (simp only []; omega))) _))) ?_); rintro v w3 ⟨n2, y2, t2, ao, l, cap, k2, b, rfl, hq3⟩; have U3 : Upd0 w w3 := UpdQ.fin (show Upd0 w _ from U2.tr (by repeat first | with_reducible (first | exact Upd.refl _ _ | assumption | apply Upd.drew | apply Upd.alloc) | refine Upd0.tr ?_ (by with_reducible assumption) | refine Upd.setCell ?_ (fun h => absurd h (by first | exact Nat.lt_irrefl _ | (simp only []; omega))) _)) hq3; have z3 := U3.size)
    | (go_at_call 32; (with_reducible refine (clive_w _).use ?_); rintro v wl ⟨rfl, hul⟩)
    | (with_reducible refine wp_serial (by kernel_rfl) (by kernel_rfl) (by repeat with_reducible (first | apply NoBad.then | apply NoBad.inBlock | apply NoBad.jump | exact NoBad.rets)) ?_) | fail)
  all_goals go_returns
  all_goals exact ⟨rfl, show Upd0 w _ from U3.tr (by repeat first | with_reducible (first | exact Upd.refl _ _ | assumption | apply Upd.drew | apply Upd.alloc) | refine Upd0.tr ?_ (by with_reducible assumption) | refine Upd.setCell ?_ (fun h => absurd h (by first | exact Nat.lt_irrefl _ | (simp only []; omega))) _)⟩
set_option maxRecDepth 100000 in
set_option maxHeartbeats 4000000 in
theorem rk_lg (one two : Int) (a1 : one < 1) (a2 : 1 ≤ two) (b2 : 5 < two) (c1 c2 : CS) (hf : putI rkC0 rkS1 one 0 = 1 ∧ putS rkC0 rkS1 one 0 = c1) (hg : putI c1 rkS2 two 1 = 1 ∧ putS c1 rkS2 two 1 = c2) (w : World) : Calls Try.prog 14 #[.int .i64 one, .int .i64 two] w (Rets fun r w' => r = .bool true ∧ Upd0 w w') := by
  have hok1 : COk c1 := by rw [← hf.2]; exact putS_ok rkC0_ok rkF1
  have hN1 : c1.N ≤ 1000 := by rw [← hf.2]; exact Int.le_trans (putS_N _ _ _ _) (by decide)
  have hok2 : COk c2 := by rw [← hg.2]; exact putS_ok hok1 rkF2
  have hN2 : c2.N ≤ 1000000 := by rw [← hg.2]; have h1 := putS_N c1 rkS2 two 1; omega
  have hP1 := Lib.hid (fun (t g : Nat) (w' : World) => put_1 (B := w.heap.size) t g rkC0 one 1 c1 rkC0_ok (by decide) hf w')
  have hP2 := Lib.hid (fun (t g : Nat) (w' : World) => put_2 (B := w.heap.size) t g c1 two 1 c2 hok1 hN1 hg w')
  have hG := Lib.hid (fun (t : Nat) (w' : World) => cget_any (B := w.heap.size) t c2 [1, 97] 1 2 w' hok2 hN2 (by decide) (by decide))
  have nn2 : ¬ two ≤ 5 := by omega
  clear hf hg hok1 hN1 hok2 hN2
  have ta1 : True := trivial
  have tk1 : True := trivial
  go_enter Try.func14, Try.ntmps14
  go_wp2_with
    (first
    | (go_at_call 31; (with_reducible refine (cnew_w 5 100 (by decide) (by decide) (by decide) (by decide) _).use ?_); rintro v wn ⟨t, rfl, hun, hcn⟩; have Cn := Lib.hid (show Ca w.heap.size wn t rkC0 from hcn); have zn := hun.size; clear hcn)
    | (go_at_call 42; have _t := ta1; (with_reducible refine (a_w [1, 97] 9 [49, 49, 49, 49] _).use ?_); rintro v x1 ⟨g1, rfl, hd1, hv1⟩; have V1 : Upd0 w x1 := hun.tr (show Upd0 wn x1 from (by repeat first | with_reducible (first | exact Upd.refl _ _ | assumption | apply Upd.drew | apply Upd.alloc) | refine Upd0.tr ?_ (by with_reducible assumption) | refine Upd.setCell ?_ (fun h => absurd h (by first | exact Nat.lt_irrefl _ | (simp only []; omega))) _)); have D1 := Lib.hid (Cn.out.to0 (show Upd0 wn x1 from (by repeat first | with_reducible (first | exact Upd.refl _ _ | assumption | apply Upd.drew | apply Upd.alloc) | refine Upd0.tr ?_ (by with_reducible assumption) | refine Upd.setCell ?_ (fun h => absurd h (by first | exact Nat.lt_irrefl _ | (simp only []; omega))) _))); have e1 := Lib.hid hd1; have q1 := V1.size; clear ta1 _t hd1)
    | (go_at_call 34; have _t := tk1; (with_reducible refine (hP1.out t g1 _ q1 D1.out e1.out).use ?_); rintro v w1 ⟨rfl, hq1, hc1⟩; have U1 : Upd0 w w1 := UpdQ.fin V1 hq1; have C1 := Lib.hid hc1; have z1 := U1.size; clear tk1 _t hc1)
    | (go_at_call 42; (with_reducible refine (a_w [1, 97] 9 [50, 50, 50, 50] _).use ?_); rintro v x2 ⟨g2, rfl, hd2, hv2⟩; have V2 : Upd0 w x2 := U1.tr (show Upd0 w1 x2 from (by repeat first | with_reducible (first | exact Upd.refl _ _ | assumption | apply Upd.drew | apply Upd.alloc) | refine Upd0.tr ?_ (by with_reducible assumption) | refine Upd.setCell ?_ (fun h => absurd h (by first | exact Nat.lt_irrefl _ | (simp only []; omega))) _)); have D2 := Lib.hid (C1.out.to0 (show Upd0 w1 x2 from (by repeat first | with_reducible (first | exact Upd.refl _ _ | assumption | apply Upd.drew | apply Upd.alloc) | refine Upd0.tr ?_ (by with_reducible assumption) | refine Upd.setCell ?_ (fun h => absurd h (by first | exact Nat.lt_irrefl _ | (simp only []; omega))) _))); have e2 := Lib.hid hd2; have q2 := V2.size; clear hd2)
    | (go_at_call 34; (with_reducible refine (hP2.out t g2 _ q2 D2.out e2.out).use ?_); rintro v w2 ⟨rfl, hq2, hc2⟩; have U2 : Upd0 w w2 := UpdQ.fin V2 hq2; have C2 := Lib.hid hc2; have z2 := U2.size; clear hc2)
    | (go_at_call 36; (with_reducible refine Calls.use (hG.out t _ (Nat.le_trans U2.size (Upd.size (w := w2) (S := fun _ => False) (by repeat first | with_reducible (first | exact Upd.refl _ _ | assumption | apply Upd.drew | apply Upd.alloc) | refine Upd0.tr ?_ (by with_reducible assumption) | refine Upd.setCell ?_ (fun h => absurd h (by first | exact Nat.lt_irrefl _ | (simp only []; omega))) _))) (C2.out.to0 (by repeat first | with_reducible (first | exact Upd.refl _ _ | assumption | apply Upd.drew | apply Upd.alloc) | refine Upd0.tr ?_ (by with_reducible assumption) | refine Upd.setCell ?_ (fun h => absurd h (by first | exact Nat.lt_irrefl _ | (simp only []; omega))) _))) ?_); rintro v w3 ⟨n2, y2, t2, ao, l, cap, k2, b, rfl, hq3⟩; have U3 : Upd0 w w3 := UpdQ.fin (show Upd0 w _ from U2.tr (by repeat first | with_reducible (first | exact Upd.refl _ _ | assumption | apply Upd.drew | apply Upd.alloc) | refine Upd0.tr ?_ (by with_reducible assumption) | refine Upd.setCell ?_ (fun h => absurd h (by first | exact Nat.lt_irrefl _ | (simp only []; omega))) _)) hq3; have z3 := U3.size)
    | (go_at_call 32; (with_reducible refine (clive_w _).use ?_); rintro v wl ⟨rfl, hul⟩)
    | (with_reducible refine wp_serial (by kernel_rfl) (by kernel_rfl) (by repeat with_reducible (first | apply NoBad.then | apply NoBad.inBlock | apply NoBad.jump | exact NoBad.rets)) ?_) | fail)
  all_goals go_returns
  all_goals first | exact ⟨rfl, show Upd0 w _ from U3.tr (by repeat first | with_reducible (first | exact Upd.refl _ _ | assumption | apply Upd.drew | apply Upd.alloc) | refine Upd0.tr ?_ (by with_reducible assumption) | refine Upd.setCell ?_ (fun h => absurd h (by first | exact Nat.lt_irrefl _ | (simp only []; omega))) _)⟩ | (exfalso; simp only [Bool.not_eq_false', decide_eq_true_eq] at *; omega) | exact ⟨by simp [show ¬ two ≤ 5 by omega], show Upd0 w _ from U3.tr (by repeat first | with_reducible (first | exact Upd.refl _ _ | assumption | apply Upd.drew | apply Upd.alloc) | refine Upd0.tr ?_ (by with_reducible assumption) | refine Upd.setCell ?_ (fun h => absurd h (by first | exact Nat.lt_irrefl _ | (simp only []; omega))) _)⟩
set_option maxRecDepth 100000 in
set_option maxHeartbeats 4000000 in
theorem rk_li (one two : Int) (a1 : one < 1) (a2 : 1 ≤ two) (b2 : two ≤ 5) (c1 c2 : CS) (hf : putI rkC0 rkS1 one 0 = 1 ∧ putS rkC0 rkS1 one 0 = c1) (hg : putI c1 rkS2 two 1 = 0 ∧ putS c1 rkS2 two 1 = c2) (w : World) : Calls Try.prog 14 #[.int .i64 one, .int .i64 two] w (Rets fun r w' => r = .bool true ∧ Upd0 w w') := by
  have hok1 : COk c1 := by rw [← hf.2]; exact putS_ok rkC0_ok rkF1
  have hN1 : c1.N ≤ 1000 := by rw [← hf.2]; exact Int.le_trans (putS_N _ _ _ _) (by decide)
  have hok2 : COk c2 := by rw [← hg.2]; exact putS_ok hok1 rkF2
  have hN2 : c2.N ≤ 1000000 := by rw [← hg.2]; have h1 := putS_N c1 rkS2 two 1; omega
  have hP1 := Lib.hid (fun (t g : Nat) (w' : World) => put_1 (B := w.heap.size) t g rkC0 one 1 c1 rkC0_ok (by decide) hf w')
  have hP2 := Lib.hid (fun (t g : Nat) (w' : World) => put_2 (B := w.heap.size) t g c1 two 0 c2 hok1 hN1 hg w')
  have hG := Lib.hid (fun (t : Nat) (w' : World) => cget_any (B := w.heap.size) t c2 [1, 97] 1 2 w' hok2 hN2 (by decide) (by decide))
  clear hf hg hok1 hN1 hok2 hN2
  have ta1 : True := trivial
  have tk1 : True := trivial
  go_enter Try.func14, Try.ntmps14
  go_wp2_with
    (first
    | (go_at_call 31; (with_reducible refine (cnew_w 5 100 (by decide) (by decide) (by decide) (by decide) _).use ?_); rintro v wn ⟨t, rfl, hun, hcn⟩; have Cn := Lib.hid (show Ca w.heap.size wn t rkC0 from hcn); have zn := hun.size; clear hcn)
    | (go_at_call 42; have _t := ta1; (with_reducible refine (a_w [1, 97] 9 [49, 49, 49, 49] _).use ?_); rintro v x1 ⟨g1, rfl, hd1, hv1⟩; have V1 : Upd0 w x1 := hun.tr (show Upd0 wn x1 from (by repeat first | with_reducible (first | exact Upd.refl _ _ | assumption | apply Upd.drew | apply Upd.alloc) | refine Upd0.tr ?_ (by with_reducible assumption) | refine Upd.setCell ?_ (fun h => absurd h (by first | exact Nat.lt_irrefl _ | (simp only []; omega))) _)); have D1 := Lib.hid (Cn.out.to0 (show Upd0 wn x1 from (by repeat first | with_reducible (first | exact Upd.refl _ _ | assumption | apply Upd.drew | apply Upd.alloc) | refine Upd0.tr ?_ (by with_reducible assumption) | refine Upd.setCell ?_ (fun h => absurd h (by first | exact Nat.lt_irrefl _ | (simp only []; omega))) _))); have e1 := Lib.hid hd1; have q1 := V1.size; clear ta1 _t hd1)
    | (go_at_call 34; have _t := tk1; (with_reducible refine (hP1.out t g1 _ q1 D1.out e1.out).use ?_); rintro v w1 ⟨rfl, hq1, hc1⟩; have U1 : Upd0 w w1 := UpdQ.fin V1 hq1; have C1 := Lib.hid hc1; have z1 := U1.size; clear tk1 _t hc1)
    | (go_at_call 42; (with_reducible refine (a_w [1, 97] 9 [50, 50, 50, 50] _).use ?_); rintro v x2 ⟨g2, rfl, hd2, hv2⟩; have V2 : Upd0 w x2 := U1.tr (show Upd0 w1 x2 from (by repeat first | with_reducible (first | exact Upd.refl _ _ | assumption | apply Upd.drew | apply Upd.alloc) | refine Upd0.tr ?_ (by with_reducible assumption) | refine Upd.setCell ?_ (fun h => absurd h (by first | exact Nat.lt_irrefl _ | (simp only []; omega))) _)); have D2 := Lib.hid (C1.out.to0 (show Upd0 w1 x2 from (by repeat first | with_reducible (first | exact Upd.refl _ _ | assumption | apply Upd.drew | apply Upd.alloc) | refine Upd0.tr ?_ (by with_reducible assumption) | refine Upd.setCell ?_ (fun h => absurd h (by first | exact Nat.lt_irrefl _ | (simp only []; omega))) _))); have e2 := Lib.hid hd2; have q2 := V2.size; clear hd2)
    | (go_at_call 34; (with_reducible refine (hP2.out t g2 _ q2 D2.out e2.out).use ?_); rintro v w2 ⟨rfl, hq2, hc2⟩; have U2 : Upd0 w w2 := UpdQ.fin V2 hq2; have C2 := Lib.hid hc2; have z2 := U2.size; clear hc2)
    | (go_at_call 36; (with_reducible refine Calls.use (hG.out t _ (Nat.le_trans U2.size (Upd.size (w := w2) (S := fun _ => False) (by repeat first | with_reducible (first | exact Upd.refl _ _ | assumption | apply Upd.drew | apply Upd.alloc) | refine Upd0.tr ?_ (by with_reducible assumption) | refine Upd.setCell ?_ (fun h => absurd h (by first | exact Nat.lt_irrefl _ | (simp only []; omega))) _))) (C2.out.to0 (by repeat first | with_reducible (first | exact Upd.refl _ _ | assumption | apply Upd.drew | apply Upd.alloc) | refine Upd0.tr ?_ (by with_reducible assumption) | refine Upd.setCell ?_ (fun h => absurd h (by first | exact Nat.lt_irrefl _ | (simp only []; omega))) _))) ?_); rintro v w3 ⟨n2, y2, t2, ao, l, cap, k2, b, rfl, hq3⟩; have U3 : Upd0 w w3 := UpdQ.fin (show Upd0 w _ from U2.tr (by repeat first | with_reducible (first | exact Upd.refl _ _ | assumption | apply Upd.drew | apply Upd.alloc) | refine Upd0.tr ?_ (by with_reducible assumption) | refine Upd.setCell ?_ (fun h => absurd h (by first | exact Nat.lt_irrefl _ | (simp only []; omega))) _)) hq3; have z3 := U3.size)
    | (go_at_call 32; (with_reducible refine (clive_w _).use ?_); rintro v wl ⟨rfl, hul⟩)
    | (with_reducible refine wp_serial (by kernel_rfl) (by kernel_rfl) (by repeat with_reducible (first | apply NoBad.then | apply NoBad.inBlock | apply NoBad.jump | exact NoBad.rets)) ?_) | fail)
  all_goals go_returns
  all_goals exact ⟨rfl, show Upd0 w _ from U3.tr (by repeat first | with_reducible (first | exact Upd.refl _ _ | assumption | apply Upd.drew | apply Upd.alloc) | refine Upd0.tr ?_ (by with_reducible assumption) | refine Upd.setCell ?_ (fun h => absurd h (by first | exact Nat.lt_irrefl _ | (simp only []; omega))) _)⟩
set_option maxRecDepth 100000 in
set_option maxHeartbeats 4000000 in
theorem rk_gl (one two : Int) (a1 : 1 ≤ one) (b1 : 5 < one) (a2 : two < 1) (c1 c2 : CS) (hf : putI rkC0 rkS1 one 0 = 1 ∧ putS rkC0 rkS1 one 0 = c1) (hg : putI c1 rkS2 two 1 = 1 ∧ putS c1 rkS2 two 1 = c2) (w : World) : Calls Try.prog 14 #[.int .i64 one, .int .i64 two] w (Rets fun r w' => r = .bool true ∧ Upd0 w w') := by
  have hok1 : COk c1 := by rw [← hf.2]; exact putS_ok rkC0_ok rkF1
  have hN1 : c1.N ≤ 1000 := by rw [← hf.2]; exact Int.le_trans (putS_N _ _ _ _) (by decide)
  have hok2 : COk c2 := by rw [← hg.2]; exact putS_ok hok1 rkF2
  have hN2 : c2.N ≤ 1000000 := by rw [← hg.2]; have h1 := putS_N c1 rkS2 two 1; omega
  have hP1 := Lib.hid (fun (t g : Nat) (w' : World) => put_1 (B := w.heap.size) t g rkC0 one 1 c1 rkC0_ok (by decide) hf w')
  have hP2 := Lib.hid (fun (t g : Nat) (w' : World) => put_2 (B := w.heap.size) t g c1 two 1 c2 hok1 hN1 hg w')
  have hG := Lib.hid (fun (t : Nat) (w' : World) => cget_any (B := w.heap.size) t c2 [1, 97] 1 2 w' hok2 hN2 (by decide) (by decide))
  have nn1 : ¬ one ≤ 5 := by omega
  clear hf hg hok1 hN1 hok2 hN2
  have ta1 : True := trivial
  have tk1 : True := trivial
  go_enter Try.func14, Try.ntmps14
  go_wp2_with
    (first
    | (go_at_call 31; (with_reducible refine (cnew_w 5 100 (by decide) (by decide) (by decide) (by decide) _).use ?_); rintro v wn ⟨t, rfl, hun, hcn⟩; have Cn := Lib.hid (show Ca w.heap.size wn t rkC0 from hcn); have zn := hun.size; clear hcn)
    | (go_at_call 42; have _t := ta1; (with_reducible refine (a_w [1, 97] 9 [49, 49, 49, 49] _).use ?_); rintro v x1 ⟨g1, rfl, hd1, hv1⟩; have V1 : Upd0 w x1 := hun.tr (show Upd0 wn x1 from (by repeat first | with_reducible (first | exact Upd.refl _ _ | assumption | apply Upd.drew | apply Upd.alloc) | refine Upd0.tr ?_ (by with_reducible assumption) | refine Upd.setCell ?_ (fun h => absurd h (by first | exact Nat.lt_irrefl _ | (simp only []; omega))) _)); have D1 := Lib.hid (Cn.out.to0 (show Upd0 wn x1 from (by repeat first | with_reducible (first | exact Upd.refl _ _ | assumption | apply Upd.drew | apply Upd.alloc) | refine Upd0.tr ?_ (by with_reducible assumption) | refine Upd.setCell ?_ (fun h => absurd h (by first | exact Nat.lt_irrefl _ | (simp only []; omega))) _))); have e1 := Lib.hid hd1; have q1 := V1.size; clear ta1 _t hd1)
    | (go_at_call 34; have _t := tk1; (with_reducible refine (hP1.out t g1 _ q1 D1.out e1.out).use ?_); rintro v w1 ⟨rfl, hq1, hc1⟩; have U1 : Upd0 w w1 := UpdQ.fin V1 hq1; have C1 := Lib.hid hc1; have z1 := U1.size; clear tk1 _t hc1)
    | (go_at_call 42; (with_reducible refine (a_w [1, 97] 9 [50, 50, 50, 50] _).use ?_); rintro v x2 ⟨g2, rfl, hd2, hv2⟩; have V2 : Upd0 w x2 := U1.tr (show Upd0 w1 x2 from (by repeat first | with_reducible (first | exact Upd.refl _ _ | assumption | apply Upd.drew | apply Upd.alloc) | refine Upd0.tr ?_ (by with_reducible assumption) | refine Upd.setCell ?_ (fun h => absurd h (by first | exact Nat.lt_irrefl _ | (simp only []; omega))) _)); have D2 := Lib.hid (C1.out.to0 (show Upd0 w1 x2 from (by repeat first | with_reducible (first | exact Upd.refl _ _ | assumption | apply Upd.drew | apply Upd.alloc) | refine Upd0.tr ?_ (by with_reducible assumption) | refine Upd.setCell ?_ (fun h => absurd h (by first | exact Nat.lt_irrefl _ | (simp only []; omega))) _))); have e2 := Lib.hid hd2; have q2 := V2.size; clear hd2)
    | (go_at_call 34; (with_reducible refine (hP2.out t g2 _ q2 D2.out e2.out).use ?_); rintro v w2 ⟨rfl, hq2, hc2⟩; have U2 : Upd0 w w2 := UpdQ.fin V2 hq2; have C2 := Lib.hid hc2; have z2 := U2.size; clear hc2)
    | (go_at_call 36; (with_reducible refine Calls.use (hG.out t _ (Nat.le_trans U2.size (Upd.size (w := w2) (S := fun _ => False) (by repeat first | with_reducible (first | exact Upd.refl _ _ | assumption | apply Upd.drew | apply Upd.alloc) | refine Upd0.tr ?_ (by with_reducible assumption) | refine Upd.setCell ?_ (fun h => absurd h (by first | exact Nat.lt_irrefl _ | (simp only []; omega))) _))) (C2.out.to0 (by repeat first | with_reducible (first | exact Upd.refl _ _ | assumption | apply Upd.drew | apply Upd.alloc) | refine Upd0.tr ?_ (by with_reducible assumption) | refine Upd.setCell ?_ (fun h => absurd h (by first | exact Nat.lt_irrefl _ | (simp only []; omega))) _))) ?_); rintro v w3 ⟨n2, y2, t2, ao, l, cap, k2, b, rfl, hq3⟩; have U3 : Upd0 w w3 := UpdQ.fin (show Upd0 w _ from U2.tr (by repeat first | with_reducible (first | exact Upd.refl _ _ | assumption | apply Upd.drew | apply Upd.alloc) | refine Upd0.tr ?_ (by with_reducible assumption) | refine Upd.setCell ?_ (fun h => absurd h (by first | exact Nat.lt_irrefl _ | (simp only []; omega))) _)) hq3; have z3 := U3.size)
    | (go_at_call 32; (with_reducible refine (clive_w _).use ?_); rintro v wl ⟨rfl, hul⟩)
    | (with_reducible refine wp_serial (by kernel_rfl) (by kernel_rfl) (by repeat with_reducible (first | apply NoBad.then | apply NoBad.inBlock | apply NoBad.jump | exact NoBad.rets)) ?_) | fail)
  all_goals go_returns
  all_goals exact ⟨rfl, show Upd0 w _ from U3.tr (by repeat first | with_reducible (first | exact Upd.refl _ _ | assumption | apply Upd.drew | apply Upd.alloc) | refine Upd0.tr ?_ (by with_reducible assumption) | refine Upd.setCell ?_ (fun h => absurd h (by first | exact Nat.lt_irrefl _ | (simp only []; omega))) _)⟩
set_option maxRecDepth 100000 in
set_option maxHeartbeats 4000000 in
theorem rk_gg (one two : Int) (a1 : 1 ≤ one) (b1 : 5 < one) (a2 : 1 ≤ two) (b2 : 5 < two) (c1 c2 : CS) (hf : putI rkC0 rkS1 one 0 = 1 ∧ putS rkC0 rkS1 one 0 = c1) (hg : putI c1 rkS2 two 1 = 1 ∧ putS c1 rkS2 two 1 = c2) (w : World) : Calls Try.prog 14 #[.int .i64 one, .int .i64 two] w (Rets fun r w' => r = .bool true ∧ Upd0 w w') := by
  have hok1 : COk c1 := by rw [← hf.2]; exact putS_ok rkC0_ok rkF1
  have hN1 : c1.N ≤ 1000 := by rw [← hf.2]; exact Int.le_trans (putS_N _ _ _ _) (by decide)
  have hok2 : COk c2 := by rw [← hg.2]; exact putS_ok hok1 rkF2
  have hN2 : c2.N ≤ 1000000 := by rw [← hg.2]; have h1 := putS_N c1 rkS2 two 1; omega
  have hP1 := Lib.hid (fun (t g : Nat) (w' : World) => put_1 (B := w.heap.size) t g rkC0 one 1 c1 rkC0_ok (by decide) hf w')
  have hP2 := Lib.hid (fun (t g : Nat) (w' : World) => put_2 (B := w.heap.size) t g c1 two 1 c2 hok1 hN1 hg w')
  have hG := Lib.hid (fun (t : Nat) (w' : World) => cget_any (B := w.heap.size) t c2 [1, 97] 1 2 w' hok2 hN2 (by decide) (by decide))
  have nn1 : ¬ one ≤ 5 := by omega
  have nn2 : ¬ two ≤ 5 := by omega
  clear hf hg hok1 hN1 hok2 hN2
  have ta1 : True := trivial
  have tk1 : True := trivial
  go_enter Try.func14, Try.ntmps14
  go_wp2_with
    (first
    | (go_at_call 31; (with_reducible refine (cnew_w 5 100 (by decide) (by decide) (by decide) (by decide) _).use ?_); rintro v wn ⟨t, rfl, hun, hcn⟩; have Cn := Lib.hid (show Ca w.heap.size wn t rkC0 from hcn); have zn := hun.size; clear hcn)
    | (go_at_call 42; have _t := ta1; (with_reducible refine (a_w [1, 97] 9 [49, 49, 49, 49] _).use ?_); rintro v x1 ⟨g1, rfl, hd1, hv1⟩; have V1 : Upd0 w x1 := hun.tr (show Upd0 wn x1 from (by repeat first | with_reducible (first | exact Upd.refl _ _ | assumption | apply Upd.drew | apply Upd.alloc) | refine Upd0.tr ?_ (by with_reducible assumption) | refine Upd.setCell ?_ (fun h => absurd h (by first | exact Nat.lt_irrefl _ | (simp only []; omega))) _)); have D1 := Lib.hid (Cn.out.to0 (show Upd0 wn x1 from (by repeat first | with_reducible (first | exact Upd.refl _ _ | assumption | apply Upd.drew | apply Upd.alloc) | refine Upd0.tr ?_ (by with_reducible assumption) | refine Upd.setCell ?_ (fun h => absurd h (by first | exact Nat.lt_irrefl _ | (simp only []; omega))) _))); have e1 := Lib.hid hd1; have q1 := V1.size; clear ta1 _t hd1)
    | (go_at_call 34; have _t := tk1; (with_reducible refine (hP1.out t g1 _ q1 D1.out e1.out).use ?_); rintro v w1 ⟨rfl, hq1, hc1⟩; have U1 : Upd0 w w1 := UpdQ.fin V1 hq1; have C1 := Lib.hid hc1; have z1 := U1.size; clear tk1 _t hc1)
    | (go_at_call 42; (with_reducible refine (a_w [1, 97] 9 [50, 50, 50, 50] _).use ?_); rintro v x2 ⟨g2, rfl, hd2, hv2⟩; have V2 : Upd0 w x2 := U1.tr (show Upd0 w1 x2 from (by repeat first | with_reducible (first | exact Upd.refl _ _ | assumption | apply Upd.drew | apply Upd.alloc) | refine Upd0.tr ?_ (by with_reducible assumption) | refine Upd.setCell ?_ (fun h => absurd h (by first | exact Nat.lt_irrefl _ | (simp only []; omega))) _)); have D2 := Lib.hid (C1.out.to0 (show Upd0 w1 x2 from (by repeat first | with_reducible (first | exact Upd.refl _ _ | assumption | apply Upd.drew | apply Upd.alloc) | refine Upd0.tr ?_ (by with_reducible assumption) | refine Upd.setCell ?_ (fun h => absurd h (by first | exact Nat.lt_irrefl _ | (simp only []; omega))) _))); have e2 := Lib.hid hd2; have q2 := V2.size; clear hd2)
    | (go_at_call 34; (with_reducible refine (hP2.out t g2 _ q2 D2.out e2.out).use ?_); rintro v w2 ⟨rfl, hq2, hc2⟩; have U2 : Upd0 w w2 := UpdQ.fin V2 hq2; have C2 := Lib.hid hc2; have z2 := U2.size; clear hc2)
    | (go_at_call 36; (with_reducible refine Calls.use (hG.out t _ (Nat.le_trans U2.size (Upd.size (w := w2) (S := fun _ => False) (by repeat first | with_reducible (first | exact Upd.refl _ _ | assumption | apply Upd.drew | apply Upd.alloc) | refine Upd0.tr ?_ (by with_reducible assumption) | refine Upd.setCell ?_ (fun h => absurd h (by first | exact Nat.lt_irrefl _ | (simp only []; omega))) _))) (C2.out.to0 (by repeat first | with_reducible (first | exact Upd.refl _ _ | assumption | apply Upd.drew | apply Upd.alloc) | refine Upd0.tr ?_ (by with_reducible assumption) | refine Upd.setCell ?_ (fun h => absurd h (by first | exact Nat.lt_irrefl _ | (simp only []; omega))) _))) ?_); rintro v w3 ⟨n2, y2, t2, ao, l, cap, k2, b, rfl, hq3⟩; have U3 : Upd0 w w3 := UpdQ.fin (show Upd0 w _ from U2.tr (by repeat first | with_reducible (first | exact Upd.refl _ _ | assumption | apply Upd.drew | apply Upd.alloc) | refine Upd0.tr ?_ (by with_reducible assumption) | refine Upd.setCell ?_ (fun h => absurd h (by first | exact Nat.lt_irrefl _ | (simp only []; omega))) _)) hq3; have z3 := U3.size)
    | (go_at_call 32; (with_reducible refine (clive_w _).use ?_); rintro v wl ⟨rfl, hul⟩)
    | (with_reducible refine wp_serial (by kernel_rfl) (by kernel_rfl) (by repeat with_reducible (first | apply NoBad.then | apply NoBad.inBlock | apply NoBad.jump | exact NoBad.rets)) ?_) | fail)
  all_goals go_returns
  all_goals first | exact ⟨rfl, show Upd0 w _ from U3.tr (by repeat first | with_reducible (first | exact Upd.refl _ _ | assumption | apply Upd.drew | apply Upd.alloc) | refine Upd0.tr ?_ (by with_reducible assumption) | refine Upd.setCell ?_ (fun h => absurd h (by first | exact Nat.lt_irrefl _ | (simp only []; omega))) _)⟩ | (exfalso; simp only [Bool.not_eq_false', decide_eq_true_eq] at *; omega) | exact ⟨by simp [show ¬ two ≤ 5 by omega], show Upd0 w _ from U3.tr (by repeat first | with_reducible (first | exact Upd.refl _ _ | assumption | apply Upd.drew | apply Upd.alloc) | refine Upd0.tr ?_ (by with_reducible assumption) | refine Upd.setCell ?_ (fun h => absurd h (by first | exact Nat.lt_irrefl _ | (simp only []; omega))) _)⟩
set_option maxRecDepth 100000 in
set_option maxHeartbeats 4000000 in
theorem rk_gi (one two : Int) (a1 : 1 ≤ one) (b1 : 5 < one) (a2 : 1 ≤ two) (b2 : two ≤ 5) (c1 c2 : CS) (hf : putI rkC0 rkS1 one 0 = 1 ∧ putS rkC0 rkS1 one 0 = c1) (hg : putI c1 rkS2 two 1 = 0 ∧ putS c1 rkS2 two 1 = c2) (w : World) : Calls Try.prog 14 #[.int .i64 one, .int .i64 two] w (Rets fun r w' => r = .bool true ∧ Upd0 w w') := by
  have hok1 : COk c1 := by rw [← hf.2]; exact putS_ok rkC0_ok rkF1
  have hN1 : c1.N ≤ 1000 := by rw [← hf.2]; exact Int.le_trans (putS_N _ _ _ _) (by decide)
  have hok2 : COk c2 := by rw [← hg.2]; exact putS_ok hok1 rkF2
  have hN2 : c2.N ≤ 1000000 := by rw [← hg.2]; have h1 := putS_N c1 rkS2 two 1; omega
  have hP1 := Lib.hid (fun (t g : Nat) (w' : World) => put_1 (B := w.heap.size) t g rkC0 one 1 c1 rkC0_ok (by decide) hf w')
  have hP2 := Lib.hid (fun (t g : Nat) (w' : World) => put_2 (B := w.heap.size) t g c1 two 0 c2 hok1 hN1 hg w')
  have hG := Lib.hid (fun (t : Nat) (w' : World) => cget_any (B := w.heap.size) t c2 [1, 97] 1 2 w' hok2 hN2 (by decide) (by decide))
  have nn1 : ¬ one ≤ 5 := by omega
  clear hf hg hok1 hN1 hok2 hN2
  have ta1 : True := trivial
  have tk1 : True := trivial
  go_enter Try.func14, Try.ntmps14
  go_wp2_with
    (first
    | (go_at_call 31; (with_reducible refine (cnew_w 5 100 (by decide) (by decide) (by decide) (by decide) _).use ?_); rintro v wn ⟨t, rfl, hun, hcn⟩; have Cn := Lib.hid (show Ca w.heap.size wn t rkC0 from hcn); have zn := hun.size; clear hcn)
    | (go_at_call 42; have _t := ta1; (with_reducible refine (a_w [1, 97] 9 [49, 49, 49, 49] _).use ?_); rintro v x1 ⟨g1, rfl, hd1, hv1⟩; have V1 : Upd0 w x1 := hun.tr (show Upd0 wn x1 from (by repeat first | with_reducible (first | exact Upd.refl _ _ | assumption | apply Upd.drew | apply Upd.alloc) | refine Upd0.tr ?_ (by with_reducible assumption) | refine Upd.setCell ?_ (fun h => absurd h (by first | exact Nat.lt_irrefl _ | (simp only []; omega))) _)); have D1 := Lib.hid (Cn.out.to0 (show Upd0 wn x1 from (by repeat first | with_reducible (first | exact Upd.refl _ _ | assumption | apply Upd.drew | apply Upd.alloc) | refine Upd0.tr ?_ (by with_reducible assumption) | refine Upd.setCell ?_ (fun h => absurd h (by first | exact Nat.lt_irrefl _ | (simp only []; omega))) _))); have e1 := Lib.hid hd1; have q1 := V1.size; clear ta1 _t hd1)
    | (go_at_call 34; have _t := tk1; (with_reducible refine (hP1.out t g1 _ q1 D1.out e1.out).use ?_); rintro v w1 ⟨rfl, hq1, hc1⟩; have U1 : Upd0 w w1 := UpdQ.fin V1 hq1; have C1 := Lib.hid hc1; have z1 := U1.size; clear tk1 _t hc1)
    | (go_at_call 42; (with_reducible refine (a_w [1, 97] 9 [50, 50, 50, 50] _).use ?_); rintro v x2 ⟨g2, rfl, hd2, hv2⟩; have V2 : Upd0 w x2 := U1.tr (show Upd0 w1 x2 from (by repeat first | with_reducible (first | exact Upd.refl _ _ | assumption | apply Upd.drew | apply Upd.alloc) | refine Upd0.tr ?_ (by with_reducible assumption) | refine Upd.setCell ?_ (fun h => absurd h (by first | exact Nat.lt_irrefl _ | (simp only []; omega))) _)); have D2 := Lib.hid (C1.out.to0 (show Upd0 w1 x2 from (by repeat first | with_reducible (first | exact Upd.refl _ _ | assumption | apply Upd.drew | apply Upd.alloc) | refine Upd0.tr ?_ (by with_reducible assumption) | refine Upd.setCell ?_ (fun h => absurd h (by first | exact Nat.lt_irrefl _ | (simp only []; omega))) _))); have e2 := Lib.hid hd2; have q2 := V2.size; clear hd2)
    | (go_at_call 34; (with_reducible refine (hP2.out t g2 _ q2 D2.out e2.out).use ?_); rintro v w2 ⟨rfl, hq2, hc2⟩; have U2 : Upd0 w w2 := UpdQ.fin V2 hq2; have C2 := Lib.hid hc2; have z2 := U2.size; clear hc2)
    | (go_at_call 36; (with_reducible refine Calls.use (hG.out t _ (Nat.le_trans U2.size (Upd.size (w := w2) (S := fun _ => False) (by repeat first | with_reducible (first | exact Upd.refl _ _ | assumption | apply Upd.drew | apply Upd.alloc) | refine Upd0.tr ?_ (by with_reducible assumption) | refine Upd.setCell ?_ (fun h => absurd h (by first | exact Nat.lt_irrefl _ | (simp only []; omega))) _))) (C2.out.to0 (by repeat first | with_reducible (first | exact Upd.refl _ _ | assumption | apply Upd.drew | apply Upd.alloc) | refine Upd0.tr ?_ (by with_reducible assumption) | refine Upd.setCell ?_ (fun h => absurd h (by first | exact Nat.lt_irrefl _ | (simp only []; omega))) _))) ?_); rintro v w3 ⟨n2, y2, t2, ao, l, cap, k2, b, rfl, hq3⟩; have U3 : Upd0 w w3 := UpdQ.fin (show Upd0 w _ from U2.tr (by repeat first | with_reducible (first | exact Upd.refl _ _ | assumption | apply Upd.drew | apply Upd.alloc) | refine Upd0.tr ?_ (by with_reducible assumption) | refine Upd.setCell ?_ (fun h => absurd h (by first | exact Nat.lt_irrefl _ | (simp only []; omega))) _)) hq3; have z3 := U3.size)
    | (go_at_call 32; (with_reducible refine (clive_w _).use ?_); rintro v wl ⟨rfl, hul⟩)
    | (with_reducible refine wp_serial (by kernel_rfl) (by kernel_rfl) (by repeat with_reducible (first | apply NoBad.then | apply NoBad.inBlock | apply NoBad.jump | exact NoBad.rets)) ?_) | fail)
  all_goals go_returns
  all_goals exact ⟨rfl, show Upd0 w _ from U3.tr (by repeat first | with_reducible (first | exact Upd.refl _ _ | assumption | apply Upd.drew | apply Upd.alloc) | refine Upd0.tr ?_ (by with_reducible assumption) | refine Upd.setCell ?_ (fun h => absurd h (by first | exact Nat.lt_irrefl _ | (simp only []; omega))) _)⟩
set_option maxRecDepth 100000 in
set_option maxHeartbeats 4000000 in
theorem rk_il (one two : Int) (a1 : 1 ≤ one) (b1 : one ≤ 5) (a2 : two < 1) (c1 c2 : CS) (hf : putI rkC0 rkS1 one 0 = 0 ∧ putS rkC0 rkS1 one 0 = c1) (hg : putI c1 rkS2 two 1 = 1 ∧ putS c1 rkS2 two 1 = c2) (w : World) : Calls Try.prog 14 #[.int .i64 one, .int .i64 two] w (Rets fun r w' => r = .bool true ∧ Upd0 w w') := by
  have hok1 : COk c1 := by rw [← hf.2]; exact putS_ok rkC0_ok rkF1
  have hN1 : c1.N ≤ 1000 := by rw [← hf.2]; exact Int.le_trans (putS_N _ _ _ _) (by decide)
  have hok2 : COk c2 := by rw [← hg.2]; exact putS_ok hok1 rkF2
  have hN2 : c2.N ≤ 1000000 := by rw [← hg.2]; have h1 := putS_N c1 rkS2 two 1; omega
  have hP1 := Lib.hid (fun (t g : Nat) (w' : World) => put_1 (B := w.heap.size) t g rkC0 one 0 c1 rkC0_ok (by decide) hf w')
  have hP2 := Lib.hid (fun (t g : Nat) (w' : World) => put_2 (B := w.heap.size) t g c1 two 1 c2 hok1 hN1 hg w')
  have hG := Lib.hid (fun (t : Nat) (w' : World) => cget_any (B := w.heap.size) t c2 [1, 97] 1 2 w' hok2 hN2 (by decide) (by decide))
  clear hf hg hok1 hN1 hok2 hN2
  have ta1 : True := trivial
  have tk1 : True := trivial
  go_enter Try.func14, Try.ntmps14
  go_wp2_with
    (first
    | (go_at_call 31; (with_reducible refine (cnew_w 5 100 (by decide) (by decide) (by decide) (by decide) _).use ?_); rintro v wn ⟨t, rfl, hun, hcn⟩; have Cn := Lib.hid (show Ca w.heap.size wn t rkC0 from hcn); have zn := hun.size; clear hcn)
    | (go_at_call 42; have _t := ta1; (with_reducible refine (a_w [1, 97] 9 [49, 49, 49, 49] _).use ?_); rintro v x1 ⟨g1, rfl, hd1, hv1⟩; have V1 : Upd0 w x1 := hun.tr (show Upd0 wn x1 from (by repeat first | with_reducible (first | exact Upd.refl _ _ | assumption | apply Upd.drew | apply Upd.alloc) | refine Upd0.tr ?_ (by with_reducible assumption) | refine Upd.setCell ?_ (fun h => absurd h (by first | exact Nat.lt_irrefl _ | (simp only []; omega))) _)); have D1 := Lib.hid (Cn.out.to0 (show Upd0 wn x1 from (by repeat first | with_reducible (first | exact Upd.refl _ _ | assumption | apply Upd.drew | apply Upd.alloc) | refine Upd0.tr ?_ (by with_reducible assumption) | refine Upd.setCell ?_ (fun h => absurd h (by first | exact Nat.lt_irrefl _ | (simp only []; omega))) _))); have e1 := Lib.hid hd1; have q1 := V1.size; clear ta1 _t hd1)
    | (go_at_call 34; have _t := tk1; (with_reducible refine (hP1.out t g1 _ q1 D1.out e1.out).use ?_); rintro v w1 ⟨rfl, hq1, hc1⟩; have U1 : Upd0 w w1 := UpdQ.fin V1 hq1; have C1 := Lib.hid hc1; have z1 := U1.size; clear tk1 _t hc1)
    | (go_at_call 42; (with_reducible refine (a_w [1, 97] 9 [50, 50, 50, 50] _).use ?_); rintro v x2 ⟨g2, rfl, hd2, hv2⟩; have V2 : Upd0 w x2 := U1.tr (show Upd0 w1 x2 from (by repeat first | with_reducible (first | exact Upd.refl _ _ | assumption | apply Upd.drew | apply Upd.alloc) | refine Upd0.tr ?_ (by with_reducible assumption) | refine Upd.setCell ?_ (fun h => absurd h (by first | exact Nat.lt_irrefl _ | (simp only []; omega))) _)); have D2 := Lib.hid (C1.out.to0 (show Upd0 w1 x2 from (by repeat first | with_reducible (first | exact Upd.refl _ _ | assumption | apply Upd.drew | apply Upd.alloc) | refine Upd0.tr ?_ (by with_reducible assumption) | refine Upd.setCell ?_ (fun h => absurd h (by first | exact Nat.lt_irrefl _ | (simp only []; omega))) _))); have e2 := Lib.hid hd2; have q2 := V2.size; clear hd2)
    | (go_at_call 34; (with_reducible refine (hP2.out t g2 _ q2 D2.out e2.out).use ?_); rintro v w2 ⟨rfl, hq2, hc2⟩; have U2 : Upd0 w w2 := UpdQ.fin V2 hq2; have C2 := Lib.hid hc2; have z2 := U2.size; clear hc2)
    | (go_at_call 36; (with_reducible refine Calls.use (hG.out t _ (Nat.le_trans U2.size (Upd.size (w := w2) (S := fun _ => False) (by repeat first | with_reducible (first | exact Upd.refl _ _ | assumption | apply Upd.drew | apply Upd.alloc) | refine Upd0.tr ?_ (by with_reducible assumption) | refine Upd.setCell ?_ (fun h => absurd h (by first | exact Nat.lt_irrefl _ | (simp only []; omega))) _))) (C2.out.to0 (by repeat first | with_reducible (first | exact Upd.refl _ _ | assumption | apply Upd.drew | apply Upd.alloc) | refine Upd0.tr ?_ (by with_reducible assumption) | refine Upd.setCell ?_ (fun h => absurd h (by first | exact Nat.lt_irrefl _ | (simp only []; omega))) _))) ?_); rintro v w3 ⟨n2, y2, t2, ao, l, cap, k2, b, rfl, hq3⟩; have U3 : Upd0 w w3 := UpdQ.fin (show Upd0 w _ from U2.tr (by repeat first | with_reducible (first | exact Upd.refl _ _ | assumption | apply Upd.drew | apply Upd.alloc) | refine Upd0.tr ?_ (by with_reducible assumption) | refine Upd.setCell ?_ (fun h => absurd h (by first | exact Nat.lt_irrefl _ | (simp only []; omega))) _)) hq3; have z3 := U3.size)
    | (go_at_call 32; (with_reducible refine (clive_w _).use ?_); rintro v wl ⟨rfl, hul⟩)
    | (with_reducible refine wp_serial (by kernel_rfl) (by kernel_rfl) (by repeat with_reducible (first | apply NoBad.then | apply NoBad.inBlock | apply NoBad.jump | exact NoBad.rets)) ?_) | fail)
  all_goals go_returns
  all_goals exact ⟨rfl, show Upd0 w _ from U3.tr (by repeat first | with_reducible (first | exact Upd.refl _ _ | assumption | apply Upd.drew | apply Upd.alloc) | refine Upd0.tr ?_ (by with_reducible assumption) | refine Upd.setCell ?_ (fun h => absurd h (by first | exact Nat.lt_irrefl _ | (simp only []; omega))) _)⟩
set_option maxRecDepth 100000 in
set_option maxHeartbeats 4000000 in
theorem rk_ig (one two : Int) (a1 : 1 ≤ one) (b1 : one ≤ 5) (a2 : 1 ≤ two) (b2 : 5 < two) (c1 c2 : CS) (hf : putI rkC0 rkS1 one 0 = 0 ∧ putS rkC0 rkS1 one 0 = c1) (hg : putI c1 rkS2 two 1 = 1 ∧ putS c1 rkS2 two 1 = c2) (w : World) : Calls Try.prog 14 #[.int .i64 one, .int .i64 two] w (Rets fun r w' => r = .bool true ∧ Upd0 w w') := by
  have hok1 : COk c1 := by rw [← hf.2]; exact putS_ok rkC0_ok rkF1
  have hN1 : c1.N ≤ 1000 := by rw [← hf.2]; exact Int.le_trans (putS_N _ _ _ _) (by decide)
  have hok2 : COk c2 := by rw [← hg.2]; exact putS_ok hok1 rkF2
  have hN2 : c2.N ≤ 1000000 := by rw [← hg.2]; have h1 := putS_N c1 rkS2 two 1; omega
  have hP1 := Lib.hid (fun (t g : Nat) (w' : World) => put_1 (B := w.heap.size) t g rkC0 one 0 c1 rkC0_ok (by decide) hf w')
  have hP2 := Lib.hid (fun (t g : Nat) (w' : World) => put_2 (B := w.heap.size) t g c1 two 1 c2 hok1 hN1 hg w')
  have hG := Lib.hid (fun (t : Nat) (w' : World) => cget_any (B := w.heap.size) t c2 [1, 97] 1 2 w' hok2 hN2 (by decide) (by decide))
  have nn2 : ¬ two ≤ 5 := by omega
  clear hf hg hok1 hN1 hok2 hN2
  have ta1 : True := trivial
  have tk1 : True := trivial
  go_enter Try.func14, Try.ntmps14
  go_wp2_with
    (first
    | (go_at_call 31; (with_reducible refine (cnew_w 5 100 (by decide) (by decide) (by decide) (by decide) _).use ?_); rintro v wn ⟨t, rfl, hun, hcn⟩; have Cn := Lib.hid (show Ca w.heap.size wn t rkC0 from hcn); have zn := hun.size; clear hcn)
    | (go_at_call 42; have _t := ta1; (with_reducible refine (a_w [1, 97] 9 [49, 49, 49, 49] _).use ?_); rintro v x1 ⟨g1, rfl, hd1, hv1⟩; have V1 : Upd0 w x1 := hun.tr (show Upd0 wn x1 from (by repeat first | with_reducible (first | exact Upd.refl _ _ | assumption | apply Upd.drew | apply Upd.alloc) | refine Upd0.tr ?_ (by with_reducible assumption) | refine Upd.setCell ?_ (fun h => absurd h (by first | exact Nat.lt_irrefl _ | (simp only []; omega))) _)); have D1 := Lib.hid (Cn.out.to0 (show Upd0 wn x1 from (by repeat first | with_reducible (first | exact Upd.refl _ _ | assumption | apply Upd.drew | apply Upd.alloc) | refine Upd0.tr ?_ (by with_reducible assumption) | refine Upd.setCell ?_ (fun h => absurd h (by first | exact Nat.lt_irrefl _ | (simp only []; omega))) _))); have e1 := Lib.hid hd1; have q1 := V1.size; clear ta1 _t hd1)
    | (go_at_call 34; have _t := tk1; (with_reducible refine (hP1.out t g1 _ q1 D1.out e1.out).use ?_); rintro v w1 ⟨rfl, hq1, hc1⟩; have U1 : Upd0 w w1 := UpdQ.fin V1 hq1; have C1 := Lib.hid hc1; have z1 := U1.size; clear tk1 _t hc1)
    | (go_at_call 42; (with_reducible refine (a_w [1, 97] 9 [50, 50, 50, 50] _).use ?_); rintro v x2 ⟨g2, rfl, hd2, hv2⟩; have V2 : Upd0 w x2 := U1.tr (show Upd0 w1 x2 from (by repeat first | with_reducible (first | exact Upd.refl _ _ | assumption | apply Upd.drew | apply Upd.alloc) | refine Upd0.tr ?_ (by with_reducible assumption) | refine Upd.setCell ?_ (fun h => absurd h (by first | exact Nat.lt_irrefl _ | (simp only []; omega))) _)); have D2 := Lib.hid (C1.out.to0 (show Upd0 w1 x2 from (by repeat first | with_reducible (first | exact Upd.refl _ _ | assumption | apply Upd.drew | apply Upd.alloc) | refine Upd0.tr ?_ (by with_reducible assumption) | refine Upd.setCell ?_ (fun h => absurd h (by first | exact Nat.lt_irrefl _ | (simp only []; omega))) _))); have e2 := Lib.hid hd2; have q2 := V2.size; clear hd2)
    | (go_at_call 34; (with_reducible refine (hP2.out t g2 _ q2 D2.out e2.out).use ?_); rintro v w2 ⟨rfl, hq2, hc2⟩; have U2 : Upd0 w w2 := UpdQ.fin V2 hq2; have C2 := Lib.hid hc2; have z2 := U2.size; clear hc2)
    | (go_at_call 36; (with_reducible refine Calls.use (hG.out t _ (Nat.le_trans U2.size (Upd.size (w := w2) (S := fun _ => False) (by repeat first | with_reducible (first | exact Upd.refl _ _ | assumption | apply Upd.drew | apply Upd.alloc) | refine Upd0.tr ?_ (by with_reducible assumption) | refine Upd.setCell ?_ (fun h => absurd h (by first | exact Nat.lt_irrefl _ | (simp only []; omega))) _))) (C2.out.to0 (by repeat first | with_reducible (first | exact Upd.refl _ _ | assumption | apply Upd.drew | apply Upd.alloc) | refine Upd0.tr ?_ (by with_reducible assumption) | refine Upd.setCell ?_ (fun h => absurd h (by first | exact Nat.lt_irrefl _ | (simp only []; omega))) _))) ?_); rintro v w3 ⟨n2, y2, t2, ao, l, cap, k2, b, rfl, hq3⟩; have U3 : Upd0 w w3 := UpdQ.fin (show Upd0 w _ from U2.tr (by repeat first | with_reducible (first | exact Upd.refl _ _ | assumption | apply Upd.drew | apply Upd.alloc) | refine Upd0.tr ?_ (by with_reducible assumption) | refine Upd.setCell ?_ (fun h => absurd h (by first | exact Nat.lt_irrefl _ | (simp only []; omega))) _)) hq3; have z3 := U3.size)
    | (go_at_call 32; (with_reducible refine (clive_w _).use ?_); rintro v wl ⟨rfl, hul⟩)
    | (with_reducible refine wp_serial (by kernel_rfl) (by kernel_rfl) (by repeat with_reducible (first | apply NoBad.then | apply NoBad.inBlock | apply NoBad.jump | exact NoBad.rets)) ?_) | fail)
  all_goals go_returns
  all_goals first | exact ⟨rfl, show Upd0 w _ from U3.tr (by repeat first | with_reducible (first | exact Upd.refl _ _ | assumption | apply Upd.drew | apply Upd.alloc) | refine Upd0.tr ?_ (by with_reducible assumption) | refine Upd.setCell ?_ (fun h => absurd h (by first | exact Nat.lt_irrefl _ | (simp only []; omega))) _)⟩ | (exfalso; simp only [Bool.not_eq_false', decide_eq_true_eq] at *; omega) | exact ⟨by simp [show ¬ two ≤ 5 by omega], show Upd0 w _ from U3.tr (by repeat first | with_reducible (first | exact Upd.refl _ _ | assumption | apply Upd.drew | apply Upd.alloc) | refine Upd0.tr ?_ (by with_reducible assumption) | refine Upd.setCell ?_ (fun h => absurd h (by first | exact Nat.lt_irrefl _ | (simp only []; omega))) _)⟩
set_option maxRecDepth 100000 in
set_option maxHeartbeats 4000000 in
theorem rk_less (one two : Int) (a1 : 1 ≤ one) (b1 : one ≤ 5) (a2 : 1 ≤ two) (b2 : two ≤ 5) (hl : two < one) (c1 c2 : CS) (hf : putI rkC0 rkS1 one 0 = 0 ∧ putS rkC0 rkS1 one 0 = c1) (hg : putI c1 rkS2 two 1 = 9 ∧ putS c1 rkS2 two 1 = c2) (hh : hitB c2 [1, 97] 1 2 = some (rkE1 one)) (w : World) : Calls Try.prog 14 #[.int .i64 one, .int .i64 two] w (Rets fun r w' => r = .bool true ∧ Upd0 w w') := by
  have hok1 : COk c1 := by rw [← hf.2]; exact putS_ok rkC0_ok rkF1
  have hN1 : c1.N ≤ 1000 := by rw [← hf.2]; exact Int.le_trans (putS_N _ _ _ _) (by decide)
  have hok2 : COk c2 := by rw [← hg.2]; exact putS_ok hok1 rkF2
  have hN2 : c2.N ≤ 1000000 := by rw [← hg.2]; have h1 := putS_N c1 rkS2 two 1; omega
  have hP1 := Lib.hid (fun (t g : Nat) (w' : World) => put_1 (B := w.heap.size) t g rkC0 one 0 c1 rkC0_ok (by decide) hf w')
  have hP2 := Lib.hid (fun (t g : Nat) (w' : World) => put_2 (B := w.heap.size) t g c1 two 9 c2 hok1 hN1 hg w')
  have hG := Lib.hid (fun (t : Nat) (w' : World) (hB : w.heap.size ≤ w'.heap.size) (h : Ca w.heap.size w' t c2) => (show Calls Try.prog 36 #[.pointer (some ⟨t, 0, none⟩), .string ⟨#[1, 97]⟩, .int .i64 1, .int .i64 2] w' (Rets fun r w'' => ∃ ao cap, r = .tuple #[.agg #[.string ⟨#[1, 97]⟩, .int .i64 1, .int .i64 7, .slice ao 1 cap], .int .i64 one, .bool true] ∧ UpdQ w.heap.size w' w'' ∧ DR w'' ao [[49, 49, 49, 49]]) from (cget_hit t c2 [1, 97] 1 2 _ w' hok2 hN2 (by decide) (by decide) hB h hh).use fun v w'' ⟨ao, cap, e1, e2, _, e4⟩ => ⟨ao, cap, e1, e2, e4⟩))
  clear hf hg hh hok1 hN1 hok2 hN2
  have hmx : max one two = one := by omega
  have hmb : ¬ one ≤ two := by omega
  have ta1 : True := trivial
  have tk1 : True := trivial
  go_enter Try.func14, Try.ntmps14
  go_wp2_with
    (first
    | (go_at_call 31; (with_reducible refine (cnew_w 5 100 (by decide) (by decide) (by decide) (by decide) _).use ?_); rintro v wn ⟨t, rfl, hun, hcn⟩; have Cn := Lib.hid (show Ca w.heap.size wn t rkC0 from hcn); have zn := hun.size; clear hcn)
    | (go_at_call 42; have _t := ta1; (with_reducible refine (a_w [1, 97] 9 [49, 49, 49, 49] _).use ?_); rintro v x1 ⟨g1, rfl, hd1, hv1⟩; have V1 : Upd0 w x1 := hun.tr (show Upd0 wn x1 from (by repeat first | with_reducible (first | exact Upd.refl _ _ | assumption | apply Upd.drew | apply Upd.alloc) | refine Upd0.tr ?_ (by with_reducible assumption) | refine Upd.setCell ?_ (fun h => absurd h (by first | exact Nat.lt_irrefl _ | (simp only []; omega))) _)); have D1 := Lib.hid (Cn.out.to0 (show Upd0 wn x1 from (by repeat first | with_reducible (first | exact Upd.refl _ _ | assumption | apply Upd.drew | apply Upd.alloc) | refine Upd0.tr ?_ (by with_reducible assumption) | refine Upd.setCell ?_ (fun h => absurd h (by first | exact Nat.lt_irrefl _ | (simp only []; omega))) _))); have e1 := Lib.hid hd1; have q1 := V1.size; clear ta1 _t hd1)
    | (go_at_call 34; have _t := tk1; (with_reducible refine (hP1.out t g1 _ q1 D1.out e1.out).use ?_); rintro v w1 ⟨rfl, hq1, hc1⟩; have U1 : Upd0 w w1 := UpdQ.fin V1 hq1; have C1 := Lib.hid hc1; have z1 := U1.size; clear tk1 _t hc1)
    | (go_at_call 42; (with_reducible refine (a_w [1, 97] 9 [50, 50, 50, 50] _).use ?_); rintro v x2 ⟨g2, rfl, hd2, hv2⟩; have V2 : Upd0 w x2 := U1.tr (show Upd0 w1 x2 from (by repeat first | with_reducible (first | exact Upd.refl _ _ | assumption | apply Upd.drew | apply Upd.alloc) | refine Upd0.tr ?_ (by with_reducible assumption) | refine Upd.setCell ?_ (fun h => absurd h (by first | exact Nat.lt_irrefl _ | (simp only []; omega))) _)); have D2 := Lib.hid (C1.out.to0 (show Upd0 w1 x2 from (by repeat first | with_reducible (first | exact Upd.refl _ _ | assumption | apply Upd.drew | apply Upd.alloc) | refine Upd0.tr ?_ (by with_reducible assumption) | refine Upd.setCell ?_ (fun h => absurd h (by first | exact Nat.lt_irrefl _ | (simp only []; omega))) _))); have e2 := Lib.hid hd2; have q2 := V2.size; clear hd2)
    | (go_at_call 34; (with_reducible refine (hP2.out t g2 _ q2 D2.out e2.out).use ?_); rintro v w2 ⟨rfl, hq2, hc2⟩; have U2 : Upd0 w w2 := UpdQ.fin V2 hq2; have C2 := Lib.hid hc2; have z2 := U2.size; clear hc2)
    | (go_at_call 36; (with_reducible refine Calls.use (hG.out t _ (Nat.le_trans U2.size (Upd.size (w := w2) (S := fun _ => False) (by repeat first | with_reducible (first | exact Upd.refl _ _ | assumption | apply Upd.drew | apply Upd.alloc) | refine Upd0.tr ?_ (by with_reducible assumption) | refine Upd.setCell ?_ (fun h => absurd h (by first | exact Nat.lt_irrefl _ | (simp only []; omega))) _))) (C2.out.to0 (by repeat first | with_reducible (first | exact Upd.refl _ _ | assumption | apply Upd.drew | apply Upd.alloc) | refine Upd0.tr ?_ (by with_reducible assumption) | refine Upd.setCell ?_ (fun h => absurd h (by first | exact Nat.lt_irrefl _ | (simp only []; omega))) _))) ?_); rintro v w3 ⟨ao, cap, rfl, hq3, hd3⟩; have U3 : Upd0 w w3 := UpdQ.fin (show Upd0 w _ from U2.tr (by repeat first | with_reducible (first | exact Upd.refl _ _ | assumption | apply Upd.drew | apply Upd.alloc) | refine Upd0.tr ?_ (by with_reducible assumption) | refine Upd.setCell ?_ (fun h => absurd h (by first | exact Nat.lt_irrefl _ | (simp only []; omega))) _)) hq3; have z3 := U3.size; have hs3 := (hd3.1).some (show 0 < 1 by decide); obtain ⟨gg, oo, rfl, hgl, hgc⟩ := hs3; have hc0 := hgc 0 _ rfl; rw [Nat.add_zero] at hc0; clear hgc hd3)
    | (go_at_call 32; (with_reducible refine (clive_w _).use ?_); rintro v wl ⟨rfl, hul⟩)
    | (with_reducible refine wp_serial (by kernel_rfl) (by kernel_rfl) (by repeat with_reducible (first | apply NoBad.then | apply NoBad.inBlock | apply NoBad.jump | exact NoBad.rets)) ?_) | fail)
  all_goals go_returns
  all_goals first | exact ⟨rfl, show Upd0 w _ from U3.tr (by repeat first | with_reducible (first | exact Upd.refl _ _ | assumption | apply Upd.drew | apply Upd.alloc) | refine Upd0.tr ?_ (by with_reducible assumption) | refine Upd.setCell ?_ (fun h => absurd h (by first | exact Nat.lt_irrefl _ | (simp only []; omega))) _)⟩ | exact ⟨by simp [show ¬ one ≤ two by omega], show Upd0 w _ from U3.tr (by repeat first | with_reducible (first | exact Upd.refl _ _ | assumption | apply Upd.drew | apply Upd.alloc) | refine Upd0.tr ?_ (by with_reducible assumption) | refine Upd.setCell ?_ (fun h => absurd h (by first | exact Nat.lt_irrefl _ | (simp only []; omega))) _)⟩
set_option maxRecDepth 100000 in
set_option maxHeartbeats 4000000 in
theorem rk_more (one two : Int) (a1 : 1 ≤ one) (b1 : one ≤ 5) (a2 : 1 ≤ two) (b2 : two ≤ 5) (hl : one ≤ two) (c1 c2 : CS) (hf : putI rkC0 rkS1 one 0 = 0 ∧ putS rkC0 rkS1 one 0 = c1) (hg : putI c1 rkS2 two 1 = 0 ∧ putS c1 rkS2 two 1 = c2) (hh : hitB c2 [1, 97] 1 2 = some (rkE2 two 2)) (w : World) : Calls Try.prog 14 #[.int .i64 one, .int .i64 two] w (Rets fun r w' => r = .bool true ∧ Upd0 w w') := by
  have hok1 : COk c1 := by rw [← hf.2]; exact putS_ok rkC0_ok rkF1
  have hN1 : c1.N ≤ 1000 := by rw [← hf.2]; exact Int.le_trans (putS_N _ _ _ _) (by decide)
  have hok2 : COk c2 := by rw [← hg.2]; exact putS_ok hok1 rkF2
  have hN2 : c2.N ≤ 1000000 := by rw [← hg.2]; have h1 := putS_N c1 rkS2 two 1; omega
  have hP1 := Lib.hid (fun (t g : Nat) (w' : World) => put_1 (B := w.heap.size) t g rkC0 one 0 c1 rkC0_ok (by decide) hf w')
  have hP2 := Lib.hid (fun (t g : Nat) (w' : World) => put_2 (B := w.heap.size) t g c1 two 0 c2 hok1 hN1 hg w')
  have hG := Lib.hid (fun (t : Nat) (w' : World) (hB : w.heap.size ≤ w'.heap.size) (h : Ca w.heap.size w' t c2) => (show Calls Try.prog 36 #[.pointer (some ⟨t, 0, none⟩), .string ⟨#[1, 97]⟩, .int .i64 1, .int .i64 2] w' (Rets fun r w'' => ∃ ao cap, r = .tuple #[.agg #[.string ⟨#[1, 97]⟩, .int .i64 1, .int .i64 8, .slice ao 1 cap], .int .i64 two, .bool true] ∧ UpdQ w.heap.size w' w'' ∧ DR w'' ao [[50, 50, 50, 50]]) from (cget_hit t c2 [1, 97] 1 2 _ w' hok2 hN2 (by decide) (by decide) hB h hh).use fun v w'' ⟨ao, cap, e1, e2, _, e4⟩ => ⟨ao, cap, e1, e2, e4⟩))
  clear hf hg hh hok1 hN1 hok2 hN2
  have hmx : max one two = two := by omega
  have ta1 : True := trivial
  have tk1 : True := trivial
  go_enter Try.func14, Try.ntmps14
  go_wp2_with
    (first
    | (go_at_call 31; (with_reducible refine (cnew_w 5 100 (by decide) (by decide) (by decide) (by decide) _).use ?_); rintro v wn ⟨t, rfl, hun, hcn⟩; have Cn := Lib.hid (show Ca w.heap.size wn t rkC0 from hcn); have zn := hun.size; clear hcn)
    | (go_at_call 42; have _t := ta1; (with_reducible refine (a_w [1, 97] 9 [49, 49, 49, 49] _).use ?_); rintro v x1 ⟨g1, rfl, hd1, hv1⟩; have V1 : Upd0 w x1 := hun.tr (show Upd0 wn x1 from (by repeat first | with_reducible (first | exact Upd.refl _ _ | assumption | apply Upd.drew | apply Upd.alloc) | refine Upd0.tr ?_ (by with_reducible assumption) | refine Upd.setCell ?_ (fun h => absurd h (by first | exact Nat.lt_irrefl _ | (simp only []; omega))) _)); have D1 := Lib.hid (Cn.out.to0 (show Upd0 wn x1 from (by repeat first | with_reducible (first | exact Upd.refl _ _ | assumption | apply Upd.drew | apply Upd.alloc) | refine Upd0.tr ?_ (by with_reducible assumption) | refine Upd.setCell ?_ (fun h => absurd h (by first | exact Nat.lt_irrefl _ | (simp only []; omega))) _))); have e1 := Lib.hid hd1; have q1 := V1.size; clear ta1 _t hd1)
    | (go_at_call 34; have _t := tk1; (with_reducible refine (hP1.out t g1 _ q1 D1.out e1.out).use ?_); rintro v w1 ⟨rfl, hq1, hc1⟩; have U1 : Upd0 w w1 := UpdQ.fin V1 hq1; have C1 := Lib.hid hc1; have z1 := U1.size; clear tk1 _t hc1)
    | (go_at_call 42; (with_reducible refine (a_w [1, 97] 9 [50, 50, 50, 50] _).use ?_); rintro v x2 ⟨g2, rfl, hd2, hv2⟩; have V2 : Upd0 w x2 := U1.tr (show Upd0 w1 x2 from (by repeat first | with_reducible (first | exact Upd.refl _ _ | assumption | apply Upd.drew | apply Upd.alloc) | refine Upd0.tr ?_ (by with_reducible assumption) | refine Upd.setCell ?_ (fun h => absurd h (by first | exact Nat.lt_irrefl _ | (simp only []; omega))) _)); have D2 := Lib.hid (C1.out.to0 (show Upd0 w1 x2 from (by repeat first | with_reducible (first | exact Upd.refl _ _ | assumption | apply Upd.drew | apply Upd.alloc) | refine Upd0.tr ?_ (by with_reducible assumption) | refine Upd.setCell ?_ (fun h => absurd h (by first | exact Nat.lt_irrefl _ | (simp only []; omega))) _))); have e2 := Lib.hid hd2; have q2 := V2.size; clear hd2)
    | (go_at_call 34; (with_reducible refine (hP2.out t g2 _ q2 D2.out e2.out).use ?_); rintro v w2 ⟨rfl, hq2, hc2⟩; have U2 : Upd0 w w2 := UpdQ.fin V2 hq2; have C2 := Lib.hid hc2; have z2 := U2.size; clear hc2)
    | (go_at_call 36; (with_reducible refine Calls.use (hG.out t _ (Nat.le_trans U2.size (Upd.size (w := w2) (S := fun _ => False) (by repeat first | with_reducible (first | exact Upd.refl _ _ | assumption | apply Upd.drew | apply Upd.alloc) | refine Upd0.tr ?_ (by with_reducible assumption) | refine Upd.setCell ?_ (fun h => absurd h (by first | exact Nat.lt_irrefl _ | (simp only []; omega))) _))) (C2.out.to0 (by repeat first | with_reducible (first | exact Upd.refl _ _ | assumption | apply Upd.drew | apply Upd.alloc) | refine Upd0.tr ?_ (by with_reducible assumption) | refine Upd.setCell ?_ (fun h => absurd h (by first | exact Nat.lt_irrefl _ | (simp only []; omega))) _))) ?_); rintro v w3 ⟨ao, cap, rfl, hq3, hd3⟩; have U3 : Upd0 w w3 := UpdQ.fin (show Upd0 w _ from U2.tr (by repeat first | with_reducible (first | exact Upd.refl _ _ | assumption | apply Upd.drew | apply Upd.alloc) | refine Upd0.tr ?_ (by with_reducible assumption) | refine Upd.setCell ?_ (fun h => absurd h (by first | exact Nat.lt_irrefl _ | (simp only []; omega))) _)) hq3; have z3 := U3.size; have hs3 := (hd3.1).some (show 0 < 1 by decide); obtain ⟨gg, oo, rfl, hgl, hgc⟩ := hs3; have hc0 := hgc 0 _ rfl; rw [Nat.add_zero] at hc0; clear hgc hd3)
    | (go_at_call 32; (with_reducible refine (clive_w _).use ?_); rintro v wl ⟨rfl, hul⟩)
    | (with_reducible refine wp_serial (by kernel_rfl) (by kernel_rfl) (by repeat with_reducible (first | apply NoBad.then | apply NoBad.inBlock | apply NoBad.jump | exact NoBad.rets)) ?_) | fail)
  all_goals go_returns
  all_goals first | exact ⟨rfl, show Upd0 w _ from U3.tr (by repeat first | with_reducible (first | exact Upd.refl _ _ | assumption | apply Upd.drew | apply Upd.alloc) | refine Upd0.tr ?_ (by with_reducible assumption) | refine Upd.setCell ?_ (fun h => absurd h (by first | exact Nat.lt_irrefl _ | (simp only []; omega))) _)⟩ | exact ⟨by simp [show ¬ one ≤ two by omega], show Upd0 w _ from U3.tr (by repeat first | with_reducible (first | exact Upd.refl _ _ | assumption | apply Upd.drew | apply Upd.alloc) | refine Upd0.tr ?_ (by with_reducible assumption) | refine Upd.setCell ?_ (fun h => absurd h (by first | exact Nat.lt_irrefl _ | (simp only []; omega))) _)⟩
theorem cacheRanks_walk (one two : Int) (w : World) : Calls Try.prog 14 #[.int .i64 one, .int .i64 two] w (Rets fun r w' => r = .bool true ∧ Upd0 w w') := by
  have hx : one < 1 ∨ (1 ≤ one ∧ 5 < one) ∨ (1 ≤ one ∧ one ≤ 5) := by omega
  have hy : two < 1 ∨ (1 ≤ two ∧ 5 < two) ∨ (1 ≤ two ∧ two ≤ 5) := by omega
  rcases hx with a | ⟨a, b⟩ | ⟨a, b⟩ <;> rcases hy with c | ⟨c, d⟩ | ⟨c, d⟩
  · exact rk_ll one two a c _ _ (rk_no _ _ _ _ (by omega)) (rk_no _ _ _ _ (by omega)) w
  · exact rk_lg one two a c d _ _ (rk_no _ _ _ _ (by omega)) (rk_no _ _ _ _ (by omega)) w
  · exact rk_li one two a c d _ _ (rk_no _ _ _ _ (by omega)) (rk_2 two ⟨c, d⟩) w
  · exact rk_gl one two a b c _ _ (rk_no _ _ _ _ (by omega)) (rk_no _ _ _ _ (by omega)) w
  · exact rk_gg one two a b c d _ _ (rk_no _ _ _ _ (by omega)) (rk_no _ _ _ _ (by omega)) w
  · exact rk_gi one two a b c d _ _ (rk_no _ _ _ _ (by omega)) (rk_2 two ⟨c, d⟩) w
  · exact rk_il one two a b c _ _ (rk_1 one ⟨a, b⟩) (rk_no _ _ _ _ (by omega)) w
  · exact rk_ig one two a b c d _ _ (rk_1 one ⟨a, b⟩) (rk_no _ _ _ _ (by omega)) w
  · by_cases hl : two < one
    · exact rk_less one two a b c d hl _ _ (rk_1 one ⟨a, b⟩) (rk_less' one two ⟨c, d⟩ hl) (rk_hit1 one) w
    · exact rk_more one two a b c d (by omega) _ _ (rk_1 one ⟨a, b⟩) (rk_more' one two ⟨c, d⟩ (by omega)) (rk_hit2 two) w
end Go.Proofs.Ytijmbpokglohbaa
