/-
  The walk of CoalOnce: each client that was taken is told once.
-/
import Derived.Test.YtebnilkcpklnmaaCoOp
import Derived.Test.YtebnilkcpklnmaaCoOnP
import Derived.Deep.CutRange
import Derived.Deep.CutBlock
namespace Go.Proofs.Ytebnilkcpklnmaa
open Go.RowKit Go.Maps
set_option linter.unusedSimpArgs false
set_option linter.unusedVariables false
variable {B : Nat}
theorem info_int : (Try.prog.info? 3).map (fun i => (i.zero, i.size, i.bytes)) = some (some (.int .i64 0), 1, 8) := by kernel_rfl
def ints (A : List Nat) : List Value := A.map fun (a : Nat) => Value.int .i64 (a : Int)
theorem ints_get {A : List Nat} {j a : Nat} (h : A[j]? = some a) : (ints A)[j]? = some (.int .i64 a) := by simp [ints, h]
theorem UpdP.rowI {w w' : World} (h : UpdP B w w') {b : Nat} {v : Value} {n : Nat} {xs : List Value} (hr : w.ownsRow b 3 1 v n xs) : w'.ownsRow b 3 1 v n xs := by
  refine ownsRow_upd hr h fun g hg hs => ?_
  rcases hr.2 with ⟨rfl, _⟩ | ⟨g', cap, cur, rfl, _, hgg, _⟩
  · cases hg
  · simp [Value.ownBlock] at hg
    subst hg
    have := hs.2
    rw [hgg] at this
    simp [kindP] at this
theorem Co.toI {W w' : World} {t : Nat} {s : Tb} (h : Co B W t s) {b : Nat} {v : Value} {n : Nat} {xs : List Value} (hr : W.ownsRow b 3 1 v n xs) (k : Upd (fun k => v.ownBlock = some k) W w') : Co B w' t s := by
  refine h.to k fun g hg => ?_
  rcases hr.2 with ⟨rfl, _⟩ | ⟨g', cap, cur, rfl, _, hgg, _⟩
  · cases hg
  · simp [Value.ownBlock] at hg
    subst hg
    rw [hgg]; rfl
/-- a number behind the others -/
theorem ints_app {w wr W w' : World} {A : List Nat} {a n n' : Nat} {v v' : Value} (h0 : Upd0 w wr) (hr : wr.ownsRow w.heap.size 3 1 v n (ints A)) (hW : Upd0 wr W) (hu : Upd (fun k => v.ownBlock = some k) W w') (hf : Fresh W v v')
    (hr' : w'.ownsRow 0 3 1 v' n' (ints A ++ [.int .i64 (a : Int)])) : Upd0 w w' ∧ w'.ownsRow w.heap.size 3 1 v' n' (ints (A ++ [a])) := by
  have hz := h0.size
  have hz2 := hW.size
  refine ⟨Upd.trans (S := fun _ => False) (h0.tr hW) hu fun b hb e => ?_, ?_⟩
  · have := (hr.lt b e).1
    omega
  · have e : ints (A ++ [a]) = ints A ++ [.int .i64 (a : Int)] := by simp [ints]
    rw [e]
    refine ownsRow_mono hr' fun g hg => ?_
    rcases hf g hg with e | e
    · exact (hr.lt g e).1
    · omega
theorem opcr_at {w : World} {g o : Nat} {xs : List OpC} (h : OpcR w (some ⟨g, o, none⟩) xs) {i : Nat} {x : OpC} (hk : xs[i]? = some x) : w.cell? ⟨g, o + i * 7 + 1, none⟩ = some (.string ⟨x.q.toArray⟩) ∧ w.cell? ⟨g, o + i * 7 + 2, none⟩ = some (.int .i64 x.ty) := by
  obtain ⟨g', o', h1, _, _, h3, h4, _⟩ := h.some hk
  injection h1 with h1
  injection h1 with h1 h2
  subst h1 h2
  exact ⟨h3, h4⟩
def qs (xs : List OpC) : List (Bs × Int) := xs.map fun x => (x.q, x.ty)
theorem qs_get {xs : List OpC} {j : Nat} {x : OpC} (h : xs[j]? = some x) : (qs xs)[j]? = some (x.q, x.ty) := by simp [qs, h]
set_option maxRecDepth 100000 in
set_option maxHeartbeats 16000000 in
theorem coalOnce_walk (ao : Option Addr) (cap : Nat) (xs : List OpC) (w : World) (hS : OpcR w ao xs) (hlen : xs.length ≤ maxLen) :
    Calls Try.prog 5 #[.slice ao xs.length cap] w (Rets fun r w' => r = .bool true ∧ Upd0 w w') := by
  have hSh := Lib.hid hS
  clear hS
  simp only [maxLen] at hlen
  by_cases h60 : xs.length ≤ 60
  case neg =>
    have h60' : 60 < xs.length := by omega
    go_enter Try.func5, Try.ntmps5
    go_wp2_with (first
      | (go_at_call 15; (with_reducible refine (colive_w _).use ?_); rintro v w2 ⟨rfl, hu2⟩)
      | (with_reducible refine wp_serial (by kernel_rfl) (by kernel_rfl) (by (repeat (first | (with_reducible apply NoBad.then) | (with_reducible apply NoBad.inBlock) | (with_reducible exact NoBad.rets))); done) ?_) | fail)
    all_goals go_returns
    all_goals exact ⟨rfl, (by (repeat (first | (with_reducible exact Upd.refl _ _) | (with_reducible assumption) | (with_reducible apply Upd.drew) | (with_reducible apply Upd.alloc) | (refine Upd0.tr ?_ (by with_reducible assumption)) | (refine Upd.setCell ?_ (fun h => absurd h (by first | exact Nat.lt_irrefl _ | (simp only []; omega))) _))); done)⟩
  obtain ⟨i0, hi0, hz0, hz1, hz2⟩ := info_parts info_int
  go_enter Try.func5, Try.ntmps5
  go_wp2_with (first
    | (go_at_call 14; (with_reducible refine (new_w (B := w.heap.size) 100 100 rfl rfl _ (Nat.le_refl _)).use ?_); rintro v w1 ⟨t, rfl, htl, hu1, hc1⟩; have k1 := Lib.hid hc1; clear hc1)
    | (with_reducible refine wp_serial (by kernel_rfl) (by kernel_rfl) (by (repeat (first | (with_reducible apply NoBad.then) | (with_reducible apply NoBad.inBlock) | (with_reducible exact NoBad.rets))); done) ?_) | fail)
  go_loopw [5, 6, 7, 8, 9, 10, 11] (fun v5 jj _ _ _ _ _ wr => ∃ (i : Nat) (S : Tb) (A : List Nat) (ta : Option Addr) (tc : Nat), i ≤ xs.length ∧ jj = .int .i64 i ∧ v5 = .slice ta i tc ∧ Upd0 w wr ∧ Hid (wr.ownsRow w.heap.size 3 1 (.slice ta i tc) i (ints A)) ∧ Hid (Co w.heap.size wr t S) ∧ Hid (OnI (qs xs) i S A) ∧
    Hid (∀ (j : Nat) x, j < i → xs[j]? = some x → x.q.length ≤ 300)) (fun _ jj _ _ _ _ _ _ => xs.length - (intOf jj).toNat)
  case atStart => exact ⟨0, _, [], none, 0, Nat.zero_le _, rfl, rfl, hu1, Lib.hid ⟨rfl, .inl ⟨rfl, rfl⟩⟩, k1, Lib.hid (OnI.start _), Lib.hid (fun j x h => absurd h (by omega))⟩
  case round =>
    obtain ⟨i, S, A, ta, tc, hi, rfl, rfl, hu, hrow, hC, hO, hsq⟩ := hrel
    by_cases hlt : i < xs.length
    · obtain ⟨x, hx⟩ : ∃ x, xs[i]? = some x := ⟨xs[i], by simp [hlt]⟩
      obtain ⟨g, o, rfl, hg, e0, e1, e2, e3, e4, e5, e6, hwf⟩ := hSh.out.some hx
      have d0 := hu.cell (fun h => h) e0
      have d1 := hu.cell (fun h => h) e1
      have d2 := hu.cell (fun h => h) e2
      have d3 := hu.cell (fun h => h) e3
      have d4 := hu.cell (fun h => h) e4
      have d5 := hu.cell (fun h => h) e5
      have d6 := hu.cell (fun h => h) e6
      have f1 := Lib.hid e1
      have f2 := Lib.hid e2
      have hgw : g < wr.heap.size := Nat.lt_of_lt_of_le hg hu.size
      have hxh := Lib.hid hx
      clear hx e0 e1 e2 e3 e4 e5 e6
      obtain ⟨n, fr, e, S', hA, hstep⟩ := hO.out.step (by omega) (qs_get hxh.out)
      obtain ⟨dO, q, ty, ⟨node, id, nm⟩, tk⟩ := x
      simp only [] at d0 d1 d2 d3 d4 d5 d6 f1 f2 hA
      cases hs : (decide (q.length ≤ 300) && decide (nm.length ≤ 300)) with
      | false =>
        have hsh := Lib.hid hs
        clear hs hstep hA
        go_wp2_with (first
          | (go_at_call 16; (with_reducible refine (coshort_e dO q ty node id nm tk _).use ?_); rintro v w2 ⟨rfl, hu2⟩; rw [hsh.out])
          | (go_at_call 15; (with_reducible refine (colive_w _).use ?_); rintro v w3 ⟨rfl, hu3⟩)
          | (with_reducible refine wp_serial (by kernel_rfl) (by kernel_rfl) (by (repeat (first | (with_reducible apply NoBad.then) | (with_reducible apply NoBad.inBlock) | (with_reducible exact NoBad.rets))); done) ?_) | fail)
        all_goals go_returns
        all_goals exact ⟨rfl, (by (repeat (first | (with_reducible exact Upd.refl _ _) | (with_reducible assumption) | (with_reducible apply Upd.drew) | (with_reducible apply Upd.alloc) | (refine Upd0.tr ?_ (by with_reducible assumption)) | (refine Upd.setCell ?_ (fun h => absurd h (by first | exact Nat.lt_irrefl _ | (simp only []; omega))) _))); done)⟩
      | true =>
        have hsh := Lib.hid hs
        simp only [Bool.and_eq_true, decide_eq_true_eq] at hs
        obtain ⟨hs1, hs2⟩ := hs
        have hq7 : q.length ≤ 70000 := by omega
        have hl6 : S.last ≤ 1000000 := by have := hO.out.le; omega
        have PA := Lib.hid (fun (w1 : World) (h : Co w.heap.size w1 t S) => show Calls Try.prog 17 #[.pointer (some ⟨t, 0, none⟩), .agg #[.string ⟨q.toArray⟩, .int .i64 ty], .agg #[.int .i64 i, .int .i64 0, .string ⟨#[1, 97]⟩]] w1 (Rets fun r w' => r = .tuple #[.int .i64 n, .bool fr, .int .i64 e] ∧ UpdP w.heap.size w1 w' ∧ Co w.heap.size w' t S') from by
          have := ask_w t S q ty (oc i) hq7 (by simp [oc, nmA, maxLen]) w1 h hl6
          rw [hA] at this
          exact this)
        have hsq' : Hid (∀ (j : Nat) x, j < i + 1 → xs[j]? = some x → x.q.length ≤ 300) := Lib.hid (fun j x hj hx => by
          by_cases hji : j = i
          · rw [hji, hxh.out] at hx
            injection hx with hx
            rw [← hx]; exact hs1
          · exact hsq.out j x (by omega) hx)
        clear hA
        rcases hstep with ⟨rfl, hO1⟩ | ⟨rfl, hO1, hchk⟩
        · have hO1 := Lib.hid hO1
          go_wp2_with (first
            | (go_at_call 16; (with_reducible refine (coshort_e dO q ty node id nm tk _).use ?_); rintro v w2 ⟨rfl, hu2⟩; rw [hsh.out]; have g1 := hu2.cell (fun h => h) d1; have g2 := hu2.cell (fun h => h) d2)
            | (go_at_call 17; refine (PA.out _ (hC.out.to0 (by (repeat (first | (with_reducible exact Upd.refl _ _) | (with_reducible assumption) | (with_reducible apply Upd.drew) | (with_reducible apply Upd.alloc) | (refine Upd0.tr ?_ (by with_reducible assumption)) | (refine Upd.setCell ?_ (fun h => absurd h (by first | exact Nat.lt_irrefl _ | (simp only []; omega))) _))); done))).use ?_; rintro v w3 ⟨rfl, hu3, hc3⟩; have k3 := Lib.hid hc3; have row3 := Lib.hid (hu3.rowI (ownsRow_upd hrow.out hu2 (fun _ _ h => h))); have row3z := Lib.hid (ownsRow_mono row3.out (fun _ _ => Nat.zero_le _) : w3.ownsRow 0 _ _ _ _ _); have hu03 : Upd0 w w3 := (by (repeat (first | (with_reducible exact Upd.refl _ _) | (with_reducible assumption) | (with_reducible apply Upd.drew) | (with_reducible apply Upd.alloc) | (refine Upd0.tr ?_ (by with_reducible assumption)) | (refine UpdP.fin ?_ (by with_reducible assumption)) | (refine UpdR.fin ?_ (by with_reducible assumption)) | (refine Upd.setCell ?_ (fun h => absurd h (by first | exact Nat.lt_irrefl _ | (simp only []; omega))) _))); done); clear hc3)
            | (at_builtin; refine wpList_app (w := w3) (by (repeat (first | exact Ext.refl _ | assumption | apply Ext.drew | apply Ext.alloc)); done) rfl (.tmp 61) (.tmp 62) 55 rfl 3 i0 _ 1 8 Try.underlying55 hi0 hz0 hz1 hz2 rfl (by decide) _ _ _ row3z.out rfl _ _ _ [.int .i64 0] rfl rfl (alloc_last _ _ _ (by simp)) rfl (by omega) (by omega) ?_; intro ao' cap' w6 hr6 hu6 hf6; have hr6h := Lib.hid hr6; have hu6h := Lib.hid hu6; have hf6h := Lib.hid hf6; clear hr6 hu6 hf6)
            | (with_reducible refine wp_serial (by kernel_rfl) (by kernel_rfl) (by (repeat (first | (with_reducible apply NoBad.then) | (with_reducible apply NoBad.inBlock) | (with_reducible exact NoBad.rets))); done) ?_) | fail)
          go_roundw
          case rel =>
            have hfin := ints_app (a := 0) hu03 row3.out (by (repeat (first | (with_reducible exact Upd.refl _ _) | (with_reducible assumption) | (with_reducible apply Upd.drew) | (with_reducible apply Upd.alloc) | (refine Upd0.tr ?_ (by with_reducible assumption)) | (refine Upd.setCell ?_ (fun h => absurd h (by first | exact Nat.lt_irrefl _ | (simp only []; omega))) _))); done) hu6h.out hf6h.out hr6h.out
            exact ⟨i + 1, S', A ++ [0], ao', cap', by omega, by go_num, rfl, hfin.1, Lib.hid hfin.2, Lib.hid ((k3.out.to0 (by (repeat (first | (with_reducible exact Upd.refl _ _) | (with_reducible assumption) | (with_reducible apply Upd.drew) | (with_reducible apply Upd.alloc) | (refine Upd0.tr ?_ (by with_reducible assumption)) | (refine Upd.setCell ?_ (fun h => absurd h (by first | exact Nat.lt_irrefl _ | (simp only []; omega))) _))); done)).toI (ownsRow_upd row3.out (by (repeat (first | (with_reducible exact Upd.refl _ _) | (with_reducible assumption) | (with_reducible apply Upd.drew) | (with_reducible apply Upd.alloc) | (refine Upd0.tr ?_ (by with_reducible assumption)) | (refine Upd.setCell ?_ (fun h => absurd h (by first | exact Nat.lt_irrefl _ | (simp only []; omega))) _))); done) (fun _ _ h => h)) hu6h.out), hO1, hsq'⟩
          case measure => simp [intOf]; omega
        · have hO1 := Lib.hid hO1
          have hck := Lib.hid hchk
          clear hchk hO
          go_wp2_with (first
            | (go_at_call 16; (with_reducible refine (coshort_e dO q ty node id nm tk _).use ?_); rintro v w2 ⟨rfl, hu2⟩; rw [hsh.out]; have g1 := hu2.cell (fun h => h) d1; have g2 := hu2.cell (fun h => h) d2)
            | (go_at_call 17; refine (PA.out _ (hC.out.to0 (by (repeat (first | (with_reducible exact Upd.refl _ _) | (with_reducible assumption) | (with_reducible apply Upd.drew) | (with_reducible apply Upd.alloc) | (refine Upd0.tr ?_ (by with_reducible assumption)) | (refine Upd.setCell ?_ (fun h => absurd h (by first | exact Nat.lt_irrefl _ | (simp only []; omega))) _))); done))).use ?_; rintro v w3 ⟨rfl, hu3, hc3⟩; have k3 := Lib.hid hc3; have row3 := Lib.hid (hu3.rowI (ownsRow_upd hrow.out hu2 (fun _ _ h => h))); have hu03 : Upd0 w w3 := (by (repeat (first | (with_reducible exact Upd.refl _ _) | (with_reducible assumption) | (with_reducible apply Upd.drew) | (with_reducible apply Upd.alloc) | (refine Upd0.tr ?_ (by with_reducible assumption)) | (refine UpdP.fin ?_ (by with_reducible assumption)) | (refine UpdR.fin ?_ (by with_reducible assumption)) | (refine Upd.setCell ?_ (fun h => absurd h (by first | exact Nat.lt_irrefl _ | (simp only []; omega))) _))); done); clear hc3)
            | (with_reducible refine wp_serial (by kernel_rfl) (by kernel_rfl) (by (repeat (first | (with_reducible apply NoBad.then) | (with_reducible apply NoBad.inBlock) | (with_reducible exact NoBad.rets))); done) ?_) | fail)
          go_loopw [10, 11] (fun kk _ wr => ∃ k : Nat, k ≤ i ∧ kk = .int .i64 k ∧ Upd0 w wr ∧ Hid (wr.ownsRow w.heap.size 3 1 (.slice ta i tc) i (ints A)) ∧ Hid (Co w.heap.size wr t S')) (fun kk _ _ => i - (intOf kk).toNat)
          case atStart => exact ⟨0, Nat.zero_le _, rfl, hu03, row3, k3⟩
          case round =>
            obtain ⟨k, hk, rfl, huq, hrq, hcq⟩ := hrel
            clear d0 d1 d2 d3 d4 d5 d6 g1 g2
            have row4z := Lib.hid (ownsRow_mono hrq.out (fun _ _ => Nat.zero_le _) : wr.ownsRow 0 _ _ _ _ _)
            by_cases hki : k < i
            · obtain ⟨y, hy⟩ : ∃ y, xs[k]? = some y := ⟨xs[k]'(by omega), List.getElem?_eq_getElem (by omega)⟩
              have hAl : A.length = i := by have := hrq.out.1; simpa [ints] using this
              obtain ⟨a, ha⟩ : ∃ a, A[k]? = some a := ⟨A[k]'(by omega), List.getElem?_eq_getElem (by omega)⟩
              obtain ⟨gt, rfl⟩ := ownsRow_some row4z.out (by omega)
              have hyl := hsq.out k y hki hy
              obtain ⟨y1, y2⟩ := opcr_at hSh.out hy
              have c1 := huq.cell (fun h => h) y1
              have c2 := huq.cell (fun h => h) y2
              have b1 := huq.cell (fun h => h) f1.out
              have b2 := huq.cell (fun h => h) f2.out
              have hta := ownsRow_cell hrq.out rfl (ints_get ha)
              have tah := Lib.hid (ints_get ha)
              have hs1 := hck.out.same k a _ ha (qs_get hy)
              have hs2 := hck.out.fresh k _ hki (qs_get hy)
              have hy7 : y.q.length ≤ 70000 := by omega
              have hgw2 : g < wr.heap.size := Nat.lt_of_lt_of_le hg huq.size
              simp only [] at hs1 hs2
              clear ha hy y1 y2
              obtain ⟨eqb, heq⟩ : ∃ b, (decide (y.ty = ty) && decide (fold y.q = fold q)) = b := ⟨_, rfl⟩
              have hcase : (eqb = true ∧ fr = false ∧ (a = 0 ∨ ((0 : Int) < a ∧ (a : Int) = n))) ∨ (eqb = false ∧ (a = 0 ∨ ((0 : Int) < a ∧ ¬ (a : Int) = n))) := by
                rw [← heq]
                by_cases h1 : y.ty = ty
                · by_cases h2 : fold y.q = fold q
                  · refine .inl ⟨by simp [h1, h2], hs2 h1 h2, ?_⟩
                    by_cases h0 : a = 0
                    · exact .inl h0
                    · have := (hs1 h0).2 ⟨h1, h2⟩
                      exact .inr ⟨by omega, by omega⟩
                  · refine .inr ⟨by simp [h2], ?_⟩
                    by_cases h0 : a = 0
                    · exact .inl h0
                    · exact .inr ⟨by omega, fun e => h2 ((hs1 h0).1 (by omega)).2⟩
                · refine .inr ⟨by simp [h1], ?_⟩
                  by_cases h0 : a = 0
                  · exact .inl h0
                  · exact .inr ⟨by omega, fun e => h1 ((hs1 h0).1 (by omega)).1⟩
              have heqh := Lib.hid heq
              have hcaseh := Lib.hid hcase
              clear hs1 hs2 heq hcase
              have tkF := True.intro
              go_upto_region 18 with (first | (with_reducible refine wp_serial (by kernel_rfl) (by kernel_rfl) (by (repeat (first | (with_reducible apply NoBad.then) | (with_reducible apply NoBad.inBlock) | (with_reducible exact NoBad.rets))); done) ?_) | fail)
              go_cut [11] from 64 to 117 (fun eq wx => eq = .bool eqb ∧ Upd0 wr wx)
              case first =>
                have hd : (y.ty = ty ∧ fold y.q = fold q) ∨ (y.ty = ty ∧ ¬ fold y.q = fold q) ∨ ¬ y.ty = ty := by
                  by_cases h1 : y.ty = ty
                  · by_cases h2 : fold y.q = fold q
                    · exact .inl ⟨h1, h2⟩
                    · exact .inr (.inl ⟨h1, h2⟩)
                  · exact .inr (.inr h1)
                rcases hd with ⟨h1, h2⟩ | ⟨h1, h2⟩ | h1
                · have he := heqh.out
                  rw [decide_eq_true h1, decide_eq_true h2] at he
                  subst he
                  go_wp2_with (first
                    | (with_reducible refine wp_serial3_1 0 [] [0, 1, 2, 3, 4, 5, 6, 7, 8, 9, 10, 11, 12, 13, 14, 15, 16, 17, 18, 19, 21, 22, 23, 24, 25, 26] 20 [27, 28, 29, 30] [_, _, _, _, _, _, _, _, _, _, _, _, _, _, _, _, _, _, _, _, _, _, _, _, _, _] _ [_, _, _, _] (by kernel_rfl) (by decide +kernel) rfl rfl rfl ⟨Nat.zero_le _, fun s hs => absurd hs List.not_mem_nil⟩ (by (repeat (first | (with_reducible apply NoBad.then) | (with_reducible apply NoBad.inBlock) | (with_reducible exact NoBad.rets))); done) ?_)
                    | (go_at_call 26; have _t := tkF; (with_reducible refine (rfold_w y.q hy7 _).use ?_); rintro v w4 ⟨rfl, hu4⟩; clear tkF _t)
                    | (refine And.intro hu4.ext ?_)
                    | (go_at_call 26; (with_reducible refine (rfold_w q hq7 _).use ?_); rintro v w5 ⟨rfl, hu5⟩)
                    | fail)
                  all_goals go_meet
                  all_goals exact ⟨rfl, (by (repeat (first | (with_reducible exact Upd.refl _ _) | (with_reducible assumption) | (with_reducible apply Upd.drew) | (with_reducible apply Upd.alloc) | (refine Upd0.tr ?_ (by with_reducible assumption)) | (refine Upd.setCell ?_ (fun h => absurd h (by first | exact Nat.lt_irrefl _ | (simp only []; omega))) _))); done)⟩
                · have he := heqh.out
                  rw [decide_eq_true h1, decide_eq_false h2] at he
                  subst he
                  go_wp2_with (first
                    | (with_reducible refine wp_serial3_1 0 [] [0, 1, 2, 3, 4, 5, 6, 7, 8, 9, 10, 11, 12, 13, 14, 15, 16, 17, 18, 19, 21, 22, 23, 24, 25, 26] 20 [27, 28, 29, 30] [_, _, _, _, _, _, _, _, _, _, _, _, _, _, _, _, _, _, _, _, _, _, _, _, _, _] _ [_, _, _, _] (by kernel_rfl) (by decide +kernel) rfl rfl rfl ⟨Nat.zero_le _, fun s hs => absurd hs List.not_mem_nil⟩ (by (repeat (first | (with_reducible apply NoBad.then) | (with_reducible apply NoBad.inBlock) | (with_reducible exact NoBad.rets))); done) ?_)
                    | (go_at_call 26; have _t := tkF; (with_reducible refine (rfold_w y.q hy7 _).use ?_); rintro v w4 ⟨rfl, hu4⟩; clear tkF _t)
                    | (refine And.intro hu4.ext ?_)
                    | (go_at_call 26; (with_reducible refine (rfold_w q hq7 _).use ?_); rintro v w5 ⟨rfl, hu5⟩)
                    | fail)
                  all_goals go_meet
                  all_goals exact ⟨by have : (fold y.q == fold q) = false := by simpa using h2
                                      rw [this]; rfl, (by (repeat (first | (with_reducible exact Upd.refl _ _) | (with_reducible assumption) | (with_reducible apply Upd.drew) | (with_reducible apply Upd.alloc) | (refine Upd0.tr ?_ (by with_reducible assumption)) | (refine Upd.setCell ?_ (fun h => absurd h (by first | exact Nat.lt_irrefl _ | (simp only []; omega))) _))); done)⟩
                · have he := heqh.out
                  rw [decide_eq_false h1, Bool.false_and] at he
                  subst he
                  go_wp2_with (first
                    | (with_reducible refine wp_serial3_1 0 [] [0, 1, 2, 3, 4, 5, 6, 7, 8, 9, 10, 11, 12, 13, 14, 15, 16, 17, 18, 19, 21, 22, 23, 24, 25, 26] 20 [27, 28, 29, 30] [_, _, _, _, _, _, _, _, _, _, _, _, _, _, _, _, _, _, _, _, _, _, _, _, _, _] _ [_, _, _, _] (by kernel_rfl) (by decide +kernel) rfl rfl rfl ⟨Nat.zero_le _, fun s hs => absurd hs List.not_mem_nil⟩ (by (repeat (first | (with_reducible apply NoBad.then) | (with_reducible apply NoBad.inBlock) | (with_reducible exact NoBad.rets))); done) ?_)
                    | (refine And.intro (Ext.refl _) ?_)
                    | fail)
                  all_goals go_meet
                  all_goals exact ⟨rfl, (by (repeat (first | (with_reducible exact Upd.refl _ _) | (with_reducible assumption) | (with_reducible apply Upd.drew) | (with_reducible apply Upd.alloc) | (refine Upd0.tr ?_ (by with_reducible assumption)) | (refine Upd.setCell ?_ (fun h => absurd h (by first | exact Nat.lt_irrefl _ | (simp only []; omega))) _))); done)⟩
              case rest =>
                obtain ⟨rfl, hux⟩ := hcut
                have hta := ownsRow_cell (ownsRow_upd hrq.out hux (fun _ _ h => h)) rfl tah.out
                have hcase := hcaseh.out
                have huw : Upd0 w wc := huq.tr hux
                have hrw := Lib.hid (ownsRow_upd hrq.out hux (fun _ _ h => h))
                have hcw := Lib.hid (hcq.out.to0 hux)
                clear c1 c2 b1 b2 hux
                rcases hcase with ⟨rfl, rfl, rfl | ⟨h4, h5⟩⟩ | ⟨rfl, rfl | ⟨h4, h5⟩⟩
                all_goals
                  go_wp2_with (first | (with_reducible refine wp_serial (by kernel_rfl) (by kernel_rfl) (by (repeat (first | (with_reducible apply NoBad.then) | (with_reducible apply NoBad.inBlock) | (with_reducible exact NoBad.rets))); done) ?_) | fail)
                  go_roundw
                  case rel => exact ⟨k + 1, by omega, by go_num, huw, hrw, hcw⟩
                  case measure => simp [intOf]; omega
            · go_wp2_with (first
                | (at_builtin; refine wpList_app (w := wr) (by (repeat (first | exact Ext.refl _ | assumption | apply Ext.drew | apply Ext.alloc)); done) rfl (.tmp 118) (.tmp 120) 55 rfl 3 i0 _ 1 8 Try.underlying55 hi0 hz0 hz1 hz2 rfl (by decide) _ _ _ row4z.out rfl _ _ _ [.int .i64 n] rfl rfl (alloc_last _ _ _ (by simp)) rfl (by omega) (by omega) ?_; intro ao' cap' w6 hr6 hu6 hf6; have hr6h := Lib.hid hr6; have hu6h := Lib.hid hu6; have hf6h := Lib.hid hf6; clear hr6 hu6 hf6)
                | (with_reducible refine wp_serial (by kernel_rfl) (by kernel_rfl) (by (repeat (first | (with_reducible apply NoBad.then) | (with_reducible apply NoBad.inBlock) | (with_reducible exact NoBad.rets))); done) ?_) | fail)
              go_roundw
              case rel =>
                have hfin := ints_app (a := n) huq hrq.out (by (repeat (first | (with_reducible exact Upd.refl _ _) | (with_reducible assumption) | (with_reducible apply Upd.drew) | (with_reducible apply Upd.alloc) | (refine Upd0.tr ?_ (by with_reducible assumption)) | (refine Upd.setCell ?_ (fun h => absurd h (by first | exact Nat.lt_irrefl _ | (simp only []; omega))) _))); done) hu6h.out hf6h.out hr6h.out
                exact ⟨i + 1, S', A ++ [n], ao', cap', by omega, by go_num, rfl, hfin.1, Lib.hid hfin.2, Lib.hid ((hcq.out.to0 (by (repeat (first | (with_reducible exact Upd.refl _ _) | (with_reducible assumption) | (with_reducible apply Upd.drew) | (with_reducible apply Upd.alloc) | (refine Upd0.tr ?_ (by with_reducible assumption)) | (refine Upd.setCell ?_ (fun h => absurd h (by first | exact Nat.lt_irrefl _ | (simp only []; omega))) _))); done)).toI (ownsRow_upd hrq.out (by (repeat (first | (with_reducible exact Upd.refl _ _) | (with_reducible assumption) | (with_reducible apply Upd.drew) | (with_reducible apply Upd.alloc) | (refine Upd0.tr ?_ (by with_reducible assumption)) | (refine Upd.setCell ?_ (fun h => absurd h (by first | exact Nat.lt_irrefl _ | (simp only []; omega))) _))); done) (fun _ _ h => h)) hu6h.out), hO1, hsq'⟩
              case measure => simp [intOf]; omega
    · have hie := Lib.hid (show i = xs.length by omega)
      have hAl : A.length = i := hO.out.len
      have hdone := Lib.hid (fun n => hO.out.done n)
      have hallh := Lib.hid (hO.out.all (by omega))
      have hi60 : i ≤ 60 := by omega
      go_wp2_with (first | (with_reducible refine wp_serial (by kernel_rfl) (by kernel_rfl) (by (repeat (first | (with_reducible apply NoBad.then) | (with_reducible apply NoBad.inBlock) | (with_reducible exact NoBad.rets))); done) ?_) | fail)
      go_loopw [12, 13, 14, 15, 16] (fun tt nn _ _ _ wr => ∃ n : Nat, n ≤ 60 ∧ nn = .int .i64 ((n : Int) + 1) ∧ tt = .int .i64 (tl A n) ∧ Upd0 w wr ∧ Hid (wr.ownsRow w.heap.size 3 1 (.slice ta i tc) i (ints A)) ∧ Hid (Co w.heap.size wr t (dropT S n))) (fun _ nn _ _ _ _ => 61 - (intOf nn).toNat)
      case atStart => exact ⟨0, by omega, rfl, by rw [tl_zero]; rfl, hu, hrow, by rw [dropT_zero]; exact hC⟩
      case round =>
        obtain ⟨n, hn, rfl, rfl, hu2, hrow2, hC2⟩ := hrel
        by_cases hn60 : n < 60
        · have hdn := Lib.hid (hdone.out n)
          have PD := Lib.hid (fun (w1 : World) (h : Co w.heap.size w1 t (dropT S n)) => show Calls Try.prog 20 #[.pointer (some ⟨t, 0, none⟩), .int .i64 ((n : Int) + 1)] w1 (Rets fun r w' => ∃ (v : Value) (b : Bool), r = .tuple #[v, .bool b] ∧ w'.ownsRow 0 42 3 v (idx A i (n + 1)).length (cls ((idx A i (n + 1)).map oc)) ∧ UpdP w.heap.size w1 w' ∧ Co w.heap.size w' t (dropT S (n + 1))) from by
            refine (done_w t (dropT S n) ((n : Int) + 1) (wfN (by omega) (by omega)) w1 h).use ?_
            rintro v w' ⟨v1, rfl, hr, hu, hc⟩
            rw [(hdn.out).2, List.length_map] at hr
            rw [(hdn.out).1] at hc
            exact ⟨v1, _, rfl, hr, hu, hc⟩)
          go_wp2_with (first
            | (go_at_call 20; (with_reducible refine (PD.out _ hC2.out).use ?_); rintro v w3 ⟨vc, db, rfl, hr3, hu3, hc3⟩; obtain ⟨ca, cc, rfl⟩ := ownsRow_slice hr3; have k3 := Lib.hid hc3; have rc3 := Lib.hid hr3; have row3 := Lib.hid (hu3.rowI hrow2.out); have hu03 : Upd0 w w3 := (by (repeat (first | (with_reducible exact Upd.refl _ _) | (with_reducible assumption) | (with_reducible apply Upd.drew) | (with_reducible apply Upd.alloc) | (refine Upd0.tr ?_ (by with_reducible assumption)) | (refine UpdP.fin ?_ (by with_reducible assumption)) | (refine UpdR.fin ?_ (by with_reducible assumption)) | (refine Upd.setCell ?_ (fun h => absurd h (by first | exact Nat.lt_irrefl _ | (simp only []; omega))) _))); done); clear hc3 hr3)
            | (with_reducible refine wp_serial (by kernel_rfl) (by kernel_rfl) (by (repeat (first | (with_reducible apply NoBad.then) | (with_reducible apply NoBad.inBlock) | (with_reducible exact NoBad.rets))); done) ?_) | fail)
          go_loopw [12, 16] (fun tt kk wr => ∃ k : Nat, k ≤ (idx A i (n + 1)).length ∧ kk = .int .i64 k ∧ tt = .int .i64 ((tl A n : Int) + k) ∧ Upd0 w3 wr) (fun _ kk _ => (idx A i (n + 1)).length - (intOf kk).toNat)
          case atStart => exact ⟨0, Nat.zero_le _, rfl, by simp, Upd.refl _ _⟩
          case round =>
            obtain ⟨k, hk, rfl, rfl, hu4⟩ := hrel
            have hil := idx_len A i (n + 1)
            have htl : tl A n ≤ 60 := by have := List.countP_le_length (p := fun a => decide (0 < a) && decide (a ≤ n)) (l := A); unfold tl; omega
            by_cases hkl : k < (idx A i (n + 1)).length
            · obtain ⟨j, hj⟩ : ∃ j, (idx A i (n + 1))[k]? = some j := ⟨_, List.getElem?_eq_getElem hkl⟩
              obtain ⟨hjN, hjA⟩ := idx_mem hj
              obtain ⟨gc, rfl⟩ := ownsRow_some rc3.out (by omega)
              have row4z := ownsRow_mono row3.out (fun _ _ => Nat.zero_le _) (B' := 0)
              obtain ⟨gt, rfl⟩ := ownsRow_some row4z (by omega)
              have hcj : ((idx A i (n + 1)).map oc)[k]? = some (oc j) := by rw [List.getElem?_map, hj]; rfl
              have rc4 := ownsRow_upd rc3.out hu4 (fun _ _ h => h)
              have e0 := elem_cell cl_len rc4 hcj 0 _ (by omega) rfl
              rw [Nat.add_zero] at e0
              simp only [oc] at e0
              have eA := ownsRow_cell (ownsRow_upd row3.out hu4 (fun _ _ h => h)) rfl (ints_get hjA)
              have hjn : ¬ (j : Int) < 0 := by omega
              have hji : (j : Int) < i := by omega
              cases k with
              | zero =>
                clear rc4 row4z hj hcj
                go_wp2_with (first | (with_reducible refine wp_serial (by kernel_rfl) (by kernel_rfl) (by (repeat (first | (with_reducible apply NoBad.then) | (with_reducible apply NoBad.inBlock) | (with_reducible exact NoBad.rets))); done) ?_) | fail)
                go_roundw
                case rel => exact ⟨1, by omega, by go_num, by go_num, (by (repeat (first | (with_reducible exact Upd.refl _ _) | (with_reducible assumption) | (with_reducible apply Upd.drew) | (with_reducible apply Upd.alloc) | (refine Upd0.tr ?_ (by with_reducible assumption)) | (refine Upd.setCell ?_ (fun h => absurd h (by first | exact Nat.lt_irrefl _ | (simp only []; omega))) _))); done)⟩
                case measure => simp [intOf]; omega
              | succ k =>
                obtain ⟨j', hj'⟩ : ∃ j, (idx A i (n + 1))[k]? = some j := ⟨_, List.getElem?_eq_getElem (by omega)⟩
                have hcj' : ((idx A i (n + 1)).map oc)[k]? = some (oc j') := by rw [List.getElem?_map, hj']; rfl
                have e1 := elem_cell cl_len rc4 hcj' 0 _ (by omega) rfl
                rw [Nat.add_zero] at e1
                simp only [oc] at e1
                have hup : (j' : Int) < j := by have := idx_up hj' hj; omega
                clear rc4 row4z hj hcj hj' hcj'
                go_wp2_with (first | (with_reducible refine wp_serial (by kernel_rfl) (by kernel_rfl) (by (repeat (first | (with_reducible apply NoBad.then) | (with_reducible apply NoBad.inBlock) | (with_reducible exact NoBad.rets))); done) ?_) | fail)
                go_roundw
                case rel => exact ⟨k + 1 + 1, by omega, by go_num, by go_num, (by (repeat (first | (with_reducible exact Upd.refl _ _) | (with_reducible assumption) | (with_reducible apply Upd.drew) | (with_reducible apply Upd.alloc) | (refine Upd0.tr ?_ (by with_reducible assumption)) | (refine Upd.setCell ?_ (fun h => absurd h (by first | exact Nat.lt_irrefl _ | (simp only []; omega))) _))); done)⟩
                case measure => simp [intOf]; omega
            · have hke : k = (idx A i (n + 1)).length := by omega
              have hts := tl_succ A n
              rw [hAl] at hts
              go_wp2_with (first | (with_reducible refine wp_serial (by kernel_rfl) (by kernel_rfl) (by (repeat (first | (with_reducible apply NoBad.then) | (with_reducible apply NoBad.inBlock) | (with_reducible exact NoBad.rets))); done) ?_) | fail)
              go_roundw
              case rel => exact ⟨n + 1, by omega, by go_num, by rw [hts, hke]; simp, hu03.tr hu4, Lib.hid (ownsRow_upd row3.out hu4 (fun _ _ h => h)), Lib.hid (k3.out.to0 hu4)⟩
              case measure => simp [intOf]; omega
        · have hne : n = 60 := by omega
          subst hne
          have hC3 := Lib.hid (show Co w.heap.size wr t (dropT S 60) from hC2.out)
          go_wp2_with (first | (with_reducible refine wp_serial (by kernel_rfl) (by kernel_rfl) (by (repeat (first | (with_reducible apply NoBad.then) | (with_reducible apply NoBad.inBlock) | (with_reducible exact NoBad.rets))); done) ?_) | fail)
          go_loopw [17, 18] (fun kk jj wr => ∃ j : Nat, j ≤ i ∧ jj = .int .i64 j ∧ kk = .int .i64 ((A.take j).countP fun a => decide (0 < a)) ∧ Upd0 w wr ∧ Hid (wr.ownsRow w.heap.size 3 1 (.slice ta i tc) i (ints A)) ∧ Hid (Co w.heap.size wr t (dropT S 60))) (fun _ jj _ => i - (intOf jj).toNat)
          case atStart => exact ⟨0, Nat.zero_le _, rfl, rfl, hu2, hrow2, hC3⟩
          case round =>
            obtain ⟨j, hj, rfl, rfl, hu5, hrow5, hC5⟩ := hrel
            by_cases hji : j < i
            · obtain ⟨a, ha⟩ : ∃ a, A[j]? = some a := ⟨A[j]'(by omega), List.getElem?_eq_getElem (by omega)⟩
              have row5z := ownsRow_mono hrow5.out (fun _ _ => Nat.zero_le _) (B' := 0)
              obtain ⟨gt, rfl⟩ := ownsRow_some row5z (by omega)
              have eA := ownsRow_cell hrow5.out rfl (ints_get ha)
              have hct : (A.take (j + 1)).countP (fun a => decide (0 < a)) = (A.take j).countP (fun a => decide (0 < a)) + (if 0 < a then 1 else 0) := by
                rw [List.take_add_one, ha, List.countP_append]
                congr 1
                by_cases h0 : 0 < a <;> simp [h0]
              have hcl : (A.take j).countP (fun a => decide (0 < a)) ≤ 60 := by
                have h1 := List.countP_le_length (p := fun a => decide (0 < a)) (l := A.take j)
                have h2 : (A.take j).length ≤ j := by simp; omega
                omega
              have hcth := Lib.hid hct
              clear row5z ha hct
              by_cases h0 : 0 < a
              · have h0' : (0 : Int) < a := by omega
                go_wp2_with (first | (with_reducible refine wp_serial (by kernel_rfl) (by kernel_rfl) (by (repeat (first | (with_reducible apply NoBad.then) | (with_reducible apply NoBad.inBlock) | (with_reducible exact NoBad.rets))); done) ?_) | fail)
                go_roundw
                case rel => exact ⟨j + 1, by omega, by go_num, by rw [hcth.out, if_pos h0]; go_num, hu5, hrow5, hC5⟩
                case measure => simp [intOf]; omega
              · have h0' : ¬ (0 : Int) < a := by omega
                go_wp2_with (first | (with_reducible refine wp_serial (by kernel_rfl) (by kernel_rfl) (by (repeat (first | (with_reducible apply NoBad.then) | (with_reducible apply NoBad.inBlock) | (with_reducible exact NoBad.rets))); done) ?_) | fail)
                go_roundw
                case rel => exact ⟨j + 1, by omega, by go_num, by rw [hcth.out, if_neg h0]; rfl, hu5, hrow5, hC5⟩
                case measure => simp [intOf]; omega
            · have hje : j = A.length := by omega
              have hall := hallh.out
              have hcount : (A.take j).countP (fun a => decide (0 < a)) = tl A 60 := by rw [hje, List.take_length, hall.1]
              rw [hcount]
              have h0l : (dropT S 60).L.length = 0 := by rw [hall.2]; rfl
              have hL := Lib.hid (len_w t (dropT S 60) wr hC5.out)
              rw [h0l] at hL
              go_wp2_with (first
                | (go_at_call 23; (with_reducible refine (hL.out).use ?_); rintro v w6 ⟨rfl, hu6⟩)
                | (go_at_call 15; (with_reducible refine (colive_w _).use ?_); rintro v w7 ⟨rfl, hu7⟩)
                | (with_reducible refine wp_serial (by kernel_rfl) (by kernel_rfl) (by (repeat (first | (with_reducible apply NoBad.then) | (with_reducible apply NoBad.inBlock) | (with_reducible exact NoBad.rets))); done) ?_) | fail)
              all_goals go_returns
              all_goals exact ⟨rfl, (by (repeat (first | (with_reducible exact Upd.refl _ _) | (with_reducible assumption) | (with_reducible apply Upd.drew) | (with_reducible apply Upd.alloc) | (refine Upd0.tr ?_ (by with_reducible assumption)) | (refine Upd.setCell ?_ (fun h => absurd h (by first | exact Nat.lt_irrefl _ | (simp only []; omega))) _))); done)⟩
end Go.Proofs.Ytebnilkcpklnmaa
