/-
  The document's queue of timers: Set.
-/
import Derived.Test.YtkkncnffkmopbaaTmT
namespace Go.Proofs.Ytkkncnffkmopbaa
open Go.RowKit Go.Maps
set_option linter.unusedSimpArgs false
set_option linter.unusedVariables false
theorem Rq.cells {w : World} {b : Nat} {room : Int} {L : List Tm} (h : Rq w b room L) : ∃ ao cap, w.cell? ⟨b, 0, none⟩ = some (.int .i64 room) ∧ w.cell? ⟨b, 1, none⟩ = some (.slice ao L.length cap) ∧ w.frozen? ⟨b, 1, none⟩ = false ∧ capOk L.length ao cap ∧ TmR w ao L := by
  obtain ⟨ao, cap, h1, h2, h3⟩ := h
  exact ⟨ao, cap, by rw [blk_cell h1]; rfl, by rw [blk_cell h1]; rfl, blk_frz h1 1, h2, h3⟩
theorem Rq.storeN {w wr : World} {b : Nat} {room : Int} {L L' : List Tm} (h : Rq w b room L) {n : Nat} (k : Upd0 w wr) {ao : Option Addr} {cap : Nat} (hn : L'.length = n) (hc : capOk n ao cap) (hr : TmR wr ao L') : Rq (wr.setCell ⟨b, 1, none⟩ (.slice ao n cap)) b room L' ∧ Upd (fun n => n = b) w (wr.setCell ⟨b, 1, none⟩ (.slice ao n cap)) := by
  subst hn; exact h.store k hc hr
theorem TmR.own' {w : World} {B : Nat} {ao : Option Addr} {n cap : Nat} {L : List Tm} {xs : List Value} (h : w.ownsRow B 43 2 (.slice ao n cap) n xs) (hx : xs = tms L) : TmR w ao L := by
  subst hx
  have hn : L.length = n := by have := h.1; rw [tms, flat_len tm_len] at this; omega
  subst hn
  exact TmR.own h
theorem tms_one {L : List Tm} {u : Value} (hu : u ∈ tms L) : u.oneCell' = true := by
  obtain ⟨t, _, ht⟩ := List.mem_flatMap.1 hu
  simp only [Tm.cells, List.mem_cons, List.not_mem_nil, or_false] at ht
  rcases ht with rfl | rfl <;> rfl
/-- the cells of a list's tail -/
theorem tmr_cells {w : World} {g o : Nat} {L : List Tm} (k : Nat) (h : TmR w (some ⟨g, o, none⟩) L) {j : Nat} {u : Value} (hu : (tms (L.drop k))[j]? = some u) : w.cell? ((⟨g, o + k * 2, none⟩ : Addr).add j) = some u := by
  rw [Addr.add_lit]
  have hd := h.drop k
  have hj : j < (tms (L.drop k)).length := (List.getElem?_eq_some_iff.1 hu).1
  rw [tms, flat_len tm_len] at hj
  have hi : j / 2 < (L.drop k).length := by omega
  obtain ⟨t, ht⟩ : ∃ t, (L.drop k)[j / 2]? = some t := ⟨_, List.getElem?_eq_getElem hi⟩
  have h2 := flat_get tm_len (L.drop k) (j / 2) (j % 2) t ht (Nat.mod_lt _ (by decide))
  rw [Nat.div_add_mod' j 2] at h2
  rw [tms, h2] at hu
  obtain ⟨g', o', hg', _, c0, c1⟩ := hd.at ht
  cases hg'
  have hjj := Nat.div_add_mod' j 2
  rcases Nat.mod_two_eq_zero_or_one j with hm | hm
  · rw [hm] at hu
    simp only [Tm.cells, List.getElem?_cons_zero, Option.some.injEq] at hu
    subst hu
    have : o + k * 2 + j = o + k * 2 + j / 2 * 2 := by omega
    rw [this]; exact c0
  · rw [hm] at hu
    simp only [Tm.cells, List.getElem?_cons_succ, List.getElem?_cons_zero, Option.some.injEq] at hu
    subst hu
    have : o + k * 2 + j = o + k * 2 + j / 2 * 2 + 1 := by omega
    rw [this]; exact c1
theorem ins_split {R : List Tm} {t : Tm} {k : Nat} (h1 : ∀ y ∈ R.take k, aheadB y t = true) (h2 : ∀ y, R[k]? = some y → aheadB y t = false) : insL R t = R.take k ++ t :: R.drop k := by
  unfold insL
  have h : R.takeWhile (fun y => aheadB y t) = R.take k ∧ R.dropWhile (fun y => aheadB y t) = R.drop k := by
    induction R generalizing k with
    | nil => simp
    | cons y R ih =>
      cases k with
      | zero => have := h2 y rfl; simp [this]
      | succ k =>
        have hy := h1 y (by simp)
        have := ih (k := k) (fun t ht => h1 t (by simp [ht])) (fun t ht => h2 t (by simpa using ht))
        simp [hy, this]
  rw [h.1, h.2]
theorem rset_bad (b : Nat) (room : Int) (L : List Tm) (x : Bs) (a : Int) (hbad : argT x a = true) (w : World) (h : Rq w b room L) : Calls Try.prog 11 #[.pointer (some ⟨b, 0, none⟩), .string ⟨x.toArray⟩, .int .i64 a] w (Rets fun r w' => r = .int .i64 1 ∧ Upd0 w w') := by
  simp only [argT, Bool.or_eq_true, decide_eq_true_eq] at hbad
  have hcase : (decide (0 ≤ a) && decide (a ≤ 1099511627776)) = false ∨ ((decide (0 ≤ a) && decide (a ≤ 1099511627776)) = true ∧ 300 < x.length) := by
    by_cases h1 : 0 ≤ a ∧ a ≤ 1099511627776
    · exact .inr ⟨by simp [h1], by omega⟩
    · left
      rw [Bool.and_eq_false_iff, decide_eq_false_iff_not, decide_eq_false_iff_not]; omega
  clear h hbad
  rcases hcase with h1 | ⟨h1, h2⟩
  all_goals
    have hh1 := Lib.hid h1
    clear h1
    go_enter Try.func11, Try.ntmps11
    go_wp2_with (first
      | (go_at_call 19; (with_reducible refine (rtime_w a _).use ?_); rintro v w1 ⟨rfl, hu1⟩; rw [hh1.out])
      | (with_reducible refine wp_serial (by kernel_rfl) (by kernel_rfl) (by (repeat (first | (with_reducible apply NoBad.then) | (with_reducible apply NoBad.inBlock) | (with_reducible apply NoBad.jump) | (with_reducible exact NoBad.rets))); done) ?_) | fail)
    all_goals go_returns
    all_goals exact ⟨rfl, (by (repeat (first | (with_reducible exact Upd.refl _ _) | (with_reducible assumption) | (with_reducible apply Upd.drew) | (with_reducible apply Upd.alloc) | (refine Upd0.tr ?_ (by with_reducible assumption)) | (refine Upd.setCell ?_ (fun h => absurd h (by first | exact Nat.lt_irrefl _ | (simp only []; omega))) _))); done)⟩
set_option maxRecDepth 100000 in
set_option maxHeartbeats 4000000 in
theorem rset_ok (b : Nat) (room : Int) (L : List Tm) (x : Bs) (a : Int) (hok : argT x a = false) (hl : L.length ≤ 1000) (w : World) (h : Rq w b room L) : Calls Try.prog 11 #[.pointer (some ⟨b, 0, none⟩), .string ⟨x.toArray⟩, .int .i64 a] w (Rets fun r w' =>
    r = .int .i64 (setC room L x a) ∧ Upd (fun n => n = b) w w' ∧ Rq w' b room (setT room L x a)) := by
  have htime := Lib.hid (show (decide (0 ≤ a) && decide (a ≤ 1099511627776)) = true by simp only [argT, Bool.or_eq_false_iff, decide_eq_false_iff_not] at hok; simp; omega)
  have hx3 : x.length ≤ 300 := by simp only [argT, Bool.or_eq_false_iff, decide_eq_false_iff_not] at hok; omega
  have hokh := Lib.hid hok
  have hh := Lib.hid h
  have hbl := h.lt
  obtain ⟨i1, hj, hy0, hy1, hy2⟩ := info_parts info_tm
  clear h hok
  go_enter Try.func11, Try.ntmps11
  go_wp2_with (first
    | (go_at_call 19; (with_reducible refine (rtime_w a _).use ?_); rintro v w1 ⟨rfl, hu1⟩; rw [htime.out])
    | (with_reducible refine wp_serial (by kernel_rfl) (by kernel_rfl) (by (repeat (first | (with_reducible apply NoBad.then) | (with_reducible apply NoBad.inBlock) | (with_reducible apply NoBad.jump) | (with_reducible exact NoBad.rets))); done) ?_) | fail)
  go_loopw [7, 8] (fun vi ii wr => ∃ j : Nat, j ≤ L.length ∧ ii = .int .i64 j ∧ vi = .bool (hasL (L.take j) x) ∧ Upd0 w wr) (fun _ ii _ => L.length - (intOf ii).toNat)
  case atStart => exact ⟨0, Nat.zero_le _, rfl, rfl, hu1⟩
  case round =>
    obtain ⟨j, hj', rfl, rfl, hu⟩ := hrel
    have hQ := Lib.hid (hh.out.up hu)
    obtain ⟨ao, cap, c0, c1, f1, hcap, hr⟩ := hQ.out.cells
    have hrh := Lib.hid hr
    clear hr
    obtain ⟨hs, hhs⟩ : ∃ hs, hasL (L.take j) x = hs := ⟨_, rfl⟩
    by_cases hlt : j < L.length
    · obtain ⟨t, ht⟩ : ∃ t, L[j]? = some t := ⟨L[j], List.getElem?_eq_getElem hlt⟩
      obtain ⟨g, o, rfl, hg, e0, e1⟩ := hrh.out.at ht
      have hst := Lib.hid (stop_take (x := x) ht).2
      rw [hhs] at hst ⊢
      obtain ⟨n, a'⟩ := t
      simp only [] at e0 e1 hst
      clear ht hhs
      cases hs with
      | true =>
        go_wp2_with (first | (with_reducible refine wp_serial (by kernel_rfl) (by kernel_rfl) (by (repeat (first | (with_reducible apply NoBad.then) | (with_reducible apply NoBad.inBlock) | (with_reducible apply NoBad.jump) | (with_reducible exact NoBad.rets))); done) ?_) | fail)
        go_roundw
        case rel => exact ⟨j + 1, by omega, by go_num, by rw [hst.out]; rfl, (by (repeat (first | (with_reducible exact Upd.refl _ _) | (with_reducible assumption) | (with_reducible apply Upd.drew) | (with_reducible apply Upd.alloc) | (refine Upd0.tr ?_ (by with_reducible assumption)) | (refine Upd.setCell ?_ (fun h => absurd h (by first | exact Nat.lt_irrefl _ | (simp only []; omega))) _))); done)⟩
        case measure => simp [intOf]; omega
      | false =>
        rw [Bool.false_or] at hst
        by_cases hn : n = x
        · subst hn
          go_wp2_with (first | (with_reducible refine wp_serial (by kernel_rfl) (by kernel_rfl) (by (repeat (first | (with_reducible apply NoBad.then) | (with_reducible apply NoBad.inBlock) | (with_reducible apply NoBad.jump) | (with_reducible exact NoBad.rets))); done) ?_) | fail)
          go_roundw
          case rel => exact ⟨j + 1, by omega, by go_num, by rw [hst.out]; simp, (by (repeat (first | (with_reducible exact Upd.refl _ _) | (with_reducible assumption) | (with_reducible apply Upd.drew) | (with_reducible apply Upd.alloc) | (refine Upd0.tr ?_ (by with_reducible assumption)) | (refine Upd.setCell ?_ (fun h => absurd h (by first | exact Nat.lt_irrefl _ | (simp only []; omega))) _))); done)⟩
          case measure => simp [intOf]; omega
        · have hnb : (n == x) = false := beq_eq_false_iff_ne.2 hn
          have hst2 := Lib.hid (hst.out.trans (decide_eq_false hn))
          clear hst hn
          go_wp2_with (first | (with_reducible refine wp_serial (by kernel_rfl) (by kernel_rfl) (by (repeat (first | (with_reducible apply NoBad.then) | (with_reducible apply NoBad.inBlock) | (with_reducible apply NoBad.jump) | (with_reducible exact NoBad.rets))); done) ?_) | fail)
          go_roundw
          case rel => exact ⟨j + 1, by omega, by go_num, by rw [hst2.out], (by (repeat (first | (with_reducible exact Upd.refl _ _) | (with_reducible assumption) | (with_reducible apply Upd.drew) | (with_reducible apply Upd.alloc) | (refine Upd0.tr ?_ (by with_reducible assumption)) | (refine Upd.setCell ?_ (fun h => absurd h (by first | exact Nat.lt_irrefl _ | (simp only []; omega))) _))); done)⟩
          case measure => simp [intOf]; omega
    · have hjl : j = L.length := by omega
      subst hjl
      rw [List.take_length] at hhs ⊢
      by_cases hfull : hs = false ∧ room ≤ L.length
      · obtain ⟨rfl, hroom⟩ := hfull
        have hf := Lib.hid (show setC room L x a = 4 ∧ setT room L x a = L from ⟨by rw [setC, hokh.out, if_neg (by decide), if_pos ⟨hhs, hroom⟩], by rw [setT, hokh.out, if_neg (by decide), if_pos ⟨hhs, hroom⟩]⟩)
        rw [hhs]
        clear hhs
        go_wp2_with (first | (with_reducible refine wp_serial (by kernel_rfl) (by kernel_rfl) (by (repeat (first | (with_reducible apply NoBad.then) | (with_reducible apply NoBad.inBlock) | (with_reducible apply NoBad.jump) | (with_reducible exact NoBad.rets))); done) ?_) | fail)
        all_goals go_returns
        all_goals exact ⟨by rw [hf.out.1]; rfl, Upd.mono (S := fun _ => False) (by (repeat (first | (with_reducible exact Upd.refl _ _) | (with_reducible assumption) | (with_reducible apply Upd.drew) | (with_reducible apply Upd.alloc) | (refine Upd0.tr ?_ (by with_reducible assumption)) | (refine Upd.setCell ?_ (fun h => absurd h (by first | exact Nat.lt_irrefl _ | (simp only []; omega))) _))); done) (fun _ _ h => h.elim), by rw [hf.out.2]; exact hh.out.up (by (repeat (first | (with_reducible exact Upd.refl _ _) | (with_reducible assumption) | (with_reducible apply Upd.drew) | (with_reducible apply Upd.alloc) | (refine Upd0.tr ?_ (by with_reducible assumption)) | (refine Upd.setCell ?_ (fun h => absurd h (by first | exact Nat.lt_irrefl _ | (simp only []; omega))) _))); done)⟩
      · have hf := Lib.hid (show setC room L x a = 0 ∧ setT room L x a = insL (stopL L x) ⟨x, a⟩ from by
          have hn : ¬ (hasL L x = false ∧ room ≤ L.length) := by rw [hhs]; exact hfull
          exact ⟨by rw [setC, hokh.out, if_neg (by decide), if_neg hn], by rw [setT, hokh.out, if_neg (by decide), if_neg hn]; rfl⟩)
        have hkind : hs = true ∨ (hs = false ∧ (L.length : Int) < room) := by
          cases hs
          · exact .inr ⟨rfl, by have : ¬ room ≤ L.length := fun h => hfull ⟨rfl, h⟩; omega⟩
          · exact .inl rfl
        obtain ⟨R, hR⟩ : ∃ R, stopL L x = R := ⟨_, rfl⟩
        have hRl : R.length ≤ 1000 := by rw [← hR]; have := stopL_len L x; omega
        have hS := Lib.hid (show ∀ w', Rq w' b room L → Calls Try.prog 13 #[.pointer (some ⟨b, 0, none⟩), .string ⟨x.toArray⟩] w' (Rets fun r w'' => r = .bool hs ∧ Upd (fun n => n = b) w' w'' ∧ Rq w'' b room R) from fun w' h' => by
          have := rstop_w b room L x hl w' h'
          rwa [hhs, hR] at this)
        rw [hR] at hf
        rw [hhs]
        clear hhs hR hfull
        rcases hkind with rfl | ⟨rfl, hroom⟩
        all_goals
          go_wp2_with (first
            | (go_at_call 13; (with_reducible refine (hS.out _ (hh.out.up (by (repeat (first | (with_reducible exact Upd.refl _ _) | (with_reducible assumption) | (with_reducible apply Upd.drew) | (with_reducible apply Upd.alloc) | (refine Upd0.tr ?_ (by with_reducible assumption)) | (refine Upd.setCell ?_ (fun h => absurd h (by first | exact Nat.lt_irrefl _ | (simp only []; omega))) _))); done))).use ?_); rintro v w2 ⟨rfl, hu2, hq2⟩; have k2 := Lib.hid hq2; have U2 : Upd (fun n => n = b) w w2 := Upd.trans (Upd.mono (S := fun _ => False) (show Upd0 w _ from (by (repeat (first | (with_reducible exact Upd.refl _ _) | (with_reducible assumption) | (with_reducible apply Upd.drew) | (with_reducible apply Upd.alloc) | (refine Upd0.tr ?_ (by with_reducible assumption)) | (refine Upd.setCell ?_ (fun h => absurd h (by first | exact Nat.lt_irrefl _ | (simp only []; omega))) _))); done)) (fun _ _ h => h.elim)) hu2 (fun _ _ h => h); clear hq2)
            | (with_reducible refine wp_serial (by kernel_rfl) (by kernel_rfl) (by (repeat (first | (with_reducible apply NoBad.then) | (with_reducible apply NoBad.inBlock) | (with_reducible apply NoBad.jump) | (with_reducible exact NoBad.rets))); done) ?_) | fail)
          have hxb := Lib.hid (show (w2.alloc (.cells #[.string ⟨x.toArray⟩, .int .i64 a] 43 (0, 0))).heap[w2.heap.size]? = some (.cells #[.string ⟨x.toArray⟩, .int .i64 a] 43 (0, 0)) from alloc_last _ _ _ rfl)
          obtain ⟨w3, hw3⟩ : ∃ w3, w2.alloc (.cells #[.string ⟨x.toArray⟩, .int .i64 a] 43 (0, 0)) = w3 := ⟨_, rfl⟩
          have k3 := Lib.hid (show Rq w3 b room R from by rw [← hw3]; exact k2.out.up (by (repeat (first | (with_reducible exact Upd.refl _ _) | (with_reducible assumption) | (with_reducible apply Upd.drew) | (with_reducible apply Upd.alloc) | (refine Upd0.tr ?_ (by with_reducible assumption)) | (refine Upd.setCell ?_ (fun h => absurd h (by first | exact Nat.lt_irrefl _ | (simp only []; omega))) _))); done))
          have U3 : Upd (fun n => n = b) w w3 := by rw [← hw3]; exact U2.alloc _
          have hs3 : w3.heap.size = w2.heap.size + 1 := by rw [← hw3]; simp
          rw [hw3] at hxb
          rw [hw3]
          obtain ⟨xb, hxbn⟩ : ∃ xb, w2.heap.size = xb := ⟨_, rfl⟩
          rw [hxbn] at hxb hs3
          rw [hxbn]
          have hxbw : w.heap.size ≤ xb := by rw [← hxbn]; exact U2.size
          clear hw3 hxbn k2 U2 hu2 c0 c1 f1 hcap hrh hQ
          obtain ⟨ao5, cap5, hb3, ⟨hcap5, hnil5⟩, hr3⟩ := k3.out
          have hb3h := Lib.hid hb3
          have hr3h := Lib.hid hr3
          clear hb3 hr3
          obtain ⟨ao5, cap5, hb3, ⟨hcap5, hnil5⟩, hr3⟩ := k3.out
          have hb3h := Lib.hid hb3
          have hr3h := Lib.hid hr3
          clear hb3 hr3
          obtain ⟨ao5, cap5, hb3, ⟨hcap5, hnil5⟩, hr3⟩ := k3.out
          have hb3h := Lib.hid hb3
          have hr3h := Lib.hid hr3
          clear hb3 hr3
          obtain ⟨ao5, cap5, hb3, ⟨hcap5, hnil5⟩, hr3⟩ := k3.out
          have hb3h := Lib.hid hb3
          have hr3h := Lib.hid hr3
          clear hb3 hr3
          obtain ⟨ao5, cap5, hb3, ⟨hcap5, hnil5⟩, hr3⟩ := k3.out
          have hb3h := Lib.hid hb3
          have hr3h := Lib.hid hr3
          clear hb3 hr3
          obtain ⟨ao5, cap5, hb3, ⟨hcap5, hnil5, had5⟩, hr3⟩ := k3.out
          have hb3h := Lib.hid hb3
          have hr3h := Lib.hid hr3
          clear hb3 hr3
          obtain ⟨ao5, cap5, hb3, ⟨hcap5, hnil5, had5⟩, hr3⟩ := k3.out
          have hb3h := Lib.hid hb3
          have hr3h := Lib.hid hr3
          clear hb3 hr3
          obtain ⟨ao5, cap5, hb3, ⟨hcap5, hnil5, had5⟩, hr3⟩ := k3.out
          have hb3h := Lib.hid hb3
          have hr3h := Lib.hid hr3
          clear hb3 hr3
          go_loopw [10, 11] (fun vo kk wr => ∃ (k : Nat) (ao' : Option Addr) (cap' : Nat), k ≤ R.length ∧ kk = .int .i64 k ∧ vo = .slice ao' k cap' ∧ Upd0 w3 wr ∧ Hid (∀ y ∈ R.take k, aheadB y ⟨x, a⟩ = true) ∧ Hid (wr.ownsRow w3.heap.size 43 2 (.slice ao' k cap') k (tms (R.take k)))) (fun _ kk _ => R.length - (intOf kk).toNat)
          case atStart => exact ⟨0, none, 0, Nat.zero_le _, rfl, rfl, Upd.refl _ _, Lib.hid (by simp), Lib.hid (World.ownsRow_nil _ _ _ _)⟩
          case round =>
            obtain ⟨k, ao4, cap4, hk, rfl, rfl, hu4, hah, ho⟩ := hrel
            have hb4 := Lib.hid (hu4.block (fun h => h) hb3h.out)
            have hx4 := Lib.hid (hu4.block (fun h => h) hxb.out)
            have hz4 := hu4.size
            have c0 : wr.cell? ⟨b, 0, none⟩ = some (.int .i64 room) := (by rw [blk_cell hb4.out]; rfl)
            have c1 : wr.cell? ⟨b, 1, none⟩ = some (.slice ao5 R.length cap5) := (by rw [blk_cell hb4.out]; rfl)
            have cf : wr.frozen? ⟨b, 1, none⟩ = false := blk_frz hb4.out 1
            have cx0 : wr.cell? ⟨xb, 0, none⟩ = some (.string ⟨x.toArray⟩) := (by rw [blk_cell hx4.out]; rfl)
            have cx1 : wr.cell? ⟨xb, 1, none⟩ = some (.int .i64 a) := (by rw [blk_cell hx4.out]; rfl)
            have ho4 := Lib.hid (ownsRow_mono ho.out (fun _ _ => Nat.zero_le _) : wr.ownsRow 0 _ _ _ _ _)
            by_cases hlt : k < R.length
            · obtain ⟨y, hy⟩ : ∃ y, R[k]? = some y := ⟨R[k], List.getElem?_eq_getElem hlt⟩
              obtain ⟨g, o, rfl, hg, e0, e1⟩ := (hr3h.out.up hu4).at hy
              have hyh := Lib.hid hy
              obtain ⟨yn, ya⟩ := y
              simp only [] at e0 e1
              obtain ⟨ab, habe⟩ : ∃ ab, aheadB ⟨yn, ya⟩ ⟨x, a⟩ = ab := ⟨_, rfl⟩
              have hab := Lib.hid habe
              have hck : ¬ cap5 = k := by omega
              clear hy habe
              cases ab with
              | true =>
                go_wp2_with (first
                  | (go_at_call 20; (with_reducible refine (rahead_w ⟨yn, ya⟩ ⟨x, a⟩ _).use ?_); rintro v w5 ⟨rfl, hu5⟩; rw [hab.out]; have hw5 : Upd0 wr w5 := (by (repeat (first | (with_reducible exact Upd.refl _ _) | (with_reducible assumption) | (with_reducible apply Upd.drew) | (with_reducible apply Upd.alloc) | (refine Upd0.tr ?_ (by with_reducible assumption)) | (refine Upd.setCell ?_ (fun h => absurd h (by first | exact Nat.lt_irrefl _ | (simp only []; omega))) _))); done); have U5 : Upd0 w3 w5 := hu4.tr hw5; have hz5 := U5.size; have hb5 := Lib.hid (U5.block (fun h => h) hb3h.out); have hx5 := Lib.hid (U5.block (fun h => h) hxb.out); have dd0 : w5.cell? ⟨b, 0, none⟩ = some (.int .i64 room) := (by rw [blk_cell hb5.out]; rfl); have dd1 : w5.cell? ⟨b, 1, none⟩ = some (.slice (some ⟨g, o, none⟩) R.length cap5) := (by rw [blk_cell hb5.out]; rfl); have df : w5.frozen? ⟨b, 1, none⟩ = false := blk_frz hb5.out 1; have dx0 : w5.cell? ⟨xb, 0, none⟩ = some (.string ⟨x.toArray⟩) := (by rw [blk_cell hx5.out]; rfl); have dx1 : w5.cell? ⟨xb, 1, none⟩ = some (.int .i64 a) := (by rw [blk_cell hx5.out]; rfl); obtain ⟨g5, o5, hg5, hgl5, d0, d1⟩ := (hr3h.out.up U5).at hyh.out; cases hg5; simp only [] at d0 d1; have ho5 := Lib.hid (show w5.ownsRow 0 43 2 (.slice ao4 k cap4) k (tms (R.take k)) from ownsRow_ext ho4.out (Upd.ext hw5)))
                  | (at_builtin; (refine wpList_app (w := w5) (by (repeat (first | exact Ext.refl _ | assumption | apply Ext.drew | apply Ext.alloc)); done) rfl (.tmp 80) (.tmp 88) 29 rfl 43 i1 _ 2 24 Try.underlying29 hj hy0 hy1 hy2 rfl (by decide) (.slice ao4 k cap4) k (tms (R.take k)) ho5.out rfl w5.heap.size 1 1 [.string ⟨yn.toArray⟩, .int .i64 ya] rfl rfl (alloc_last _ _ _ (by simp)) (by rfl) (by omega) (by omega) ?_; intro ao7 cap7 w7 hr7 hu7 hf7; have hr7h := Lib.hid hr7; have hu7h := Lib.hid hu7; have hf7h := Lib.hid hf7; clear hr7 hu7 hf7))
                  | (with_reducible refine wp_serial (by kernel_rfl) (by kernel_rfl) (by (repeat (first | (with_reducible apply NoBad.then) | (with_reducible apply NoBad.inBlock) | (with_reducible apply NoBad.jump) | (with_reducible exact NoBad.rets))); done) ?_) | fail)
                have hU : Upd0 w3 w7 := Upd.trans (show Upd0 w3 (w5.alloc _) from (by (repeat (first | (with_reducible exact Upd.refl _ _) | (with_reducible assumption) | (with_reducible apply Upd.drew) | (with_reducible apply Upd.alloc) | (refine Upd0.tr ?_ (by with_reducible assumption)) | (refine Upd.setCell ?_ (fun h => absurd h (by first | exact Nat.lt_irrefl _ | (simp only []; omega))) _))); done)) hu7h.out (fun q hq hs => absurd hq (by have := (ho.out.lt q hs).1; omega))
                go_roundw
                case rel => exact ⟨k + 1, ao7, cap7, by omega, by go_num, rfl, hU, Lib.hid (fun t ht => by
                    rw [List.take_add_one, hyh.out] at ht
                    rcases List.mem_append.1 ht with ht | ht
                    · exact hah.out t ht
                    · simp at ht; rw [ht]; exact hab.out), Lib.hid (by
                    have h3 := ownsRow_mono (B' := w3.heap.size) hr7h.out (fun q hq => by
                      rcases hf7h.out q hq with h | h
                      · exact (ho.out.lt q h).1
                      · simp only [World.size_alloc] at h; omega)
                    have e : tms (R.take (k + 1)) = tms (R.take k) ++ [.string ⟨yn.toArray⟩, .int .i64 ya] := by rw [List.take_add_one, hyh.out]; simp [tms, Tm.cells]
                    rw [e]; exact h3)⟩
                case measure => simp [intOf]; omega
              | false =>
                have hin := Lib.hid (ins_split hah.out (fun y' hy' => by rw [hyh.out] at hy'; cases hy'; exact hab.out))
                obtain ⟨m, hm⟩ : ∃ m, R.length - k = m := ⟨_, rfl⟩
                have tkX : True := trivial
                have tkZ : True := trivial
                go_wp2_with (first
                  | (go_at_call 20; (with_reducible refine (rahead_w ⟨yn, ya⟩ ⟨x, a⟩ _).use ?_); rintro v w5 ⟨rfl, hu5⟩; rw [hab.out]; have hw5 : Upd0 wr w5 := (by (repeat (first | (with_reducible exact Upd.refl _ _) | (with_reducible assumption) | (with_reducible apply Upd.drew) | (with_reducible apply Upd.alloc) | (refine Upd0.tr ?_ (by with_reducible assumption)) | (refine Upd.setCell ?_ (fun h => absurd h (by first | exact Nat.lt_irrefl _ | (simp only []; omega))) _))); done); have U5 : Upd0 w3 w5 := hu4.tr hw5; have hz5 := U5.size; have hb5 := Lib.hid (U5.block (fun h => h) hb3h.out); have hx5 := Lib.hid (U5.block (fun h => h) hxb.out); have dd0 : w5.cell? ⟨b, 0, none⟩ = some (.int .i64 room) := (by rw [blk_cell hb5.out]; rfl); have dd1 : w5.cell? ⟨b, 1, none⟩ = some (.slice (some ⟨g, o, none⟩) R.length cap5) := (by rw [blk_cell hb5.out]; rfl); have df : w5.frozen? ⟨b, 1, none⟩ = false := blk_frz hb5.out 1; have dx0 : w5.cell? ⟨xb, 0, none⟩ = some (.string ⟨x.toArray⟩) := (by rw [blk_cell hx5.out]; rfl); have dx1 : w5.cell? ⟨xb, 1, none⟩ = some (.int .i64 a) := (by rw [blk_cell hx5.out]; rfl); obtain ⟨g5, o5, hg5, hgl5, d0, d1⟩ := (hr3h.out.up U5).at hyh.out; cases hg5; simp only [] at d0 d1; have ho5 := Lib.hid (show w5.ownsRow 0 43 2 (.slice ao4 k cap4) k (tms (R.take k)) from ownsRow_ext ho4.out (Upd.ext hw5)))
                  | (at_builtin; have _t := tkX; (refine wpList_app (w := w5) (by (repeat (first | exact Ext.refl _ | assumption | apply Ext.drew | apply Ext.alloc)); done) rfl (.tmp 92) (.tmp 94) 29 rfl 43 i1 _ 2 24 Try.underlying29 hj hy0 hy1 hy2 rfl (by decide) (.slice ao4 k cap4) k (tms (R.take k)) ho5.out rfl w5.heap.size 1 1 [.string ⟨x.toArray⟩, .int .i64 a] rfl rfl (alloc_last _ _ _ (by simp)) (by rfl) (by omega) (by omega) ?_; intro ao7 cap7 w7 hr7 hu7 hf7; have hr7h := Lib.hid hr7; have hu7h := Lib.hid hu7; have hf7h := Lib.hid hf7; clear hr7 hu7 hf7; have U7 : Upd0 w3 w7 := Upd.trans (by (repeat (first | (with_reducible exact Upd.refl _ _) | (with_reducible assumption) | (with_reducible apply Upd.drew) | (with_reducible apply Upd.alloc) | (refine Upd0.tr ?_ (by with_reducible assumption)) | (refine Upd.setCell ?_ (fun h => absurd h (by first | exact Nat.lt_irrefl _ | (simp only []; omega))) _))); done) hu7h.out (fun q hq hs => absurd hq (by have := (ho.out.lt q hs).1; omega)); have hb7 := Lib.hid (U7.block (fun h => h) hb3h.out); have f70 : w7.cell? ⟨b, 0, none⟩ = some (.int .i64 room) := (by rw [blk_cell hb7.out]; rfl); have f71 : w7.cell? ⟨b, 1, none⟩ = some (.slice (some ⟨g, o, none⟩) R.length cap5) := (by rw [blk_cell hb7.out]; rfl); have f7f : w7.frozen? ⟨b, 1, none⟩ = false := blk_frz hb7.out 1; have hz7 := U7.size; have ho7 := Lib.hid (ownsRow_mono (B' := 0) hr7h.out (fun _ _ => Nat.zero_le _)); have hr7r := Lib.hid (hr3h.out.up U7); clear tkX _t))
                  | (at_builtin; have _u := tkZ; (refine wpList_appx (w := w7) (by (repeat (first | exact Ext.refl _ | assumption | apply Ext.drew | apply Ext.alloc)); done) rfl (.tmp 97) (.tmp 103) 29 rfl 43 i1 _ 2 24 Try.underlying29 hj hy0 hy1 hy2 rfl (by decide) (.slice ao7 (k + 1) cap7) (k + 1) (tms (R.take k) ++ [.string ⟨x.toArray⟩, .int .i64 a]) ho7.out rfl ⟨g, o + k * 2, none⟩ m (cap5 - k) (tms (R.drop k)) rfl (by rw [tms, flat_len tm_len, List.length_drop]; omega) (fun j u hu => tmr_cells k hr7r.out hu) (fun u hu => tms_one hu) (by omega) (by omega) ?_; clear tkZ _u; intro ao8 cap8 w8 hr8 hu8 hf8; have hr8h := Lib.hid hr8; have hu8h := Lib.hid hu8; have hf8h := Lib.hid hf8; clear hr8 hu8 hf8; have U8 : Upd0 w3 w8 := Upd.trans U7 hu8h.out (fun q hq hs => absurd hq (by rcases hf7h.out q hs with h | h; have := (ho.out.lt q h).1; omega; simp at h; omega)); have hb8 := Lib.hid (U8.block (fun h => h) hb3h.out); have f80 : w8.cell? ⟨b, 0, none⟩ = some (.int .i64 room) := (by rw [blk_cell hb8.out]; rfl); have f81 : w8.cell? ⟨b, 1, none⟩ = some (.slice (some ⟨g, o, none⟩) R.length cap5) := (by rw [blk_cell hb8.out]; rfl); have f8f : w8.frozen? ⟨b, 1, none⟩ = false := blk_frz hb8.out 1))
                  | (with_reducible refine wp_serial (by kernel_rfl) (by kernel_rfl) (by (repeat (first | (with_reducible apply NoBad.then) | (with_reducible apply NoBad.inBlock) | (with_reducible apply NoBad.jump) | (with_reducible exact NoBad.rets))); done) ?_) | fail)
                have hst := Lib.hid (k3.out.storeN (L' := insL R ⟨x, a⟩) (n := k + 1 + m) U8 (by rw [hin.out]; simp; omega) (own_cap hr8h.out) (TmR.own' hr8h.out (by rw [hin.out]; simp [tms, Tm.cells])))
                all_goals go_returns
                all_goals exact ⟨by rw [hf.out.1]; rfl, Upd.trans U3 hst.out.2 (fun _ _ h => h), by rw [hf.out.2]; exact hst.out.1⟩
            · have hkl : R.length ≤ k := by omega
              cases ao5 with
              | none =>
                have hc0 := hnil5 rfl
                obtain rfl : R = [] := List.eq_nil_of_length_eq_zero (by omega)
                obtain rfl : k = 0 := by simp at hk; omega
                obtain rfl : cap5 = 0 := hc0
                have hin := Lib.hid (ins_split (R := []) (t := ⟨x, a⟩) (k := 0) (by simp) (by simp))
                simp only [List.length_nil] at c1
                clear hlt hkl hk
                have tkX : True := trivial
                have tkZ : True := trivial
                go_wp2_with (first
                  | (at_builtin; have _t := tkX; (refine wpList_app (w := wr) (by (repeat (first | exact Ext.refl _ | assumption | apply Ext.drew | apply Ext.alloc)); done) rfl (.tmp 92) (.tmp 94) 29 rfl 43 i1 _ 2 24 Try.underlying29 hj hy0 hy1 hy2 rfl (by decide) (.slice ao4 0 cap4) 0 (tms (([] : List Tm).take 0)) ho4.out rfl wr.heap.size 1 1 [.string ⟨x.toArray⟩, .int .i64 a] rfl rfl (alloc_last _ _ _ (by simp)) (by rfl) (by omega) (by omega) ?_; intro ao7 cap7 w7 hr7 hu7 hf7; have hr7h := Lib.hid hr7; have hu7h := Lib.hid hu7; have hf7h := Lib.hid hf7; clear hr7 hu7 hf7; have U7 : Upd0 w3 w7 := Upd.trans (by (repeat (first | (with_reducible exact Upd.refl _ _) | (with_reducible assumption) | (with_reducible apply Upd.drew) | (with_reducible apply Upd.alloc) | (refine Upd0.tr ?_ (by with_reducible assumption)) | (refine Upd.setCell ?_ (fun h => absurd h (by first | exact Nat.lt_irrefl _ | (simp only []; omega))) _))); done) hu7h.out (fun q hq hs => absurd hq (by have := (ho.out.lt q hs).1; omega)); have hb7 := Lib.hid (U7.block (fun h => h) hb3h.out); have f70 : w7.cell? ⟨b, 0, none⟩ = some (.int .i64 room) := (by rw [blk_cell hb7.out]; rfl); have f71 : w7.cell? ⟨b, 1, none⟩ = some (.slice none 0 0) := (by rw [blk_cell hb7.out]; rfl); have f7f : w7.frozen? ⟨b, 1, none⟩ = false := blk_frz hb7.out 1; have hz7 := U7.size; have ho7 := Lib.hid (ownsRow_mono (B' := 0) hr7h.out (fun _ _ => Nat.zero_le _)); clear tkX _t))
                  | (at_builtin; (refine wpList_app_nil (w := w7) (by (repeat (first | exact Ext.refl _ | assumption | apply Ext.drew | apply Ext.alloc)); done) rfl (.tmp 97) (.tmp 103) 29 rfl 43 i1 2 Try.underlying29 hj hy1 (.slice ao7 1 cap7) 1 (tms (([] : List Tm).take 0) ++ [.string ⟨x.toArray⟩, .int .i64 a]) ho7.out rfl rfl ?_; have tkY := True.intro))
                  | (with_reducible refine wp_serial (by kernel_rfl) (by kernel_rfl) (by (repeat (first | (with_reducible apply NoBad.then) | (with_reducible apply NoBad.inBlock) | (with_reducible apply NoBad.jump) | (with_reducible exact NoBad.rets))); done) ?_) | fail)
                all_goals go_returns
                all_goals
                  have hro := hr7h.out
                  have hst := k3.out.storeN (L' := insL [] ⟨x, a⟩) (n := 1) U7 (by rw [hin.out]; simp) (own_cap hro) (TmR.own' hro (by rw [hin.out]; simp [tms, Tm.cells]))
                  exact ⟨by rw [hf.out.1]; rfl, Upd.trans U3 hst.2 (fun _ _ h => h), by rw [hf.out.2]; exact hst.1⟩
              | some ad =>
                obtain ⟨g, o, rfl⟩ := had5 ad rfl
                have hd0 := Lib.hid (show R.drop k = [] from List.drop_of_length_le hkl)
                have hin := Lib.hid (ins_split (R := R) (k := k) hah.out (fun y' hy' => by rw [List.getElem?_eq_none (by omega)] at hy'; cases hy'))
                obtain ⟨m, hm⟩ : ∃ m, R.length - k = m := ⟨_, rfl⟩
                have hm0 : ¬ 0 < m := by omega
                by_cases hck : cap5 = k
                · obtain rfl : k = cap5 := hck.symm
                  have tkX : True := trivial
                  have tkZ : True := trivial
                  go_wp2_with (first
                    | (at_builtin; have _t := tkX; (refine wpList_app (w := wr) (by (repeat (first | exact Ext.refl _ | assumption | apply Ext.drew | apply Ext.alloc)); done) rfl (.tmp 92) (.tmp 94) 29 rfl 43 i1 _ 2 24 Try.underlying29 hj hy0 hy1 hy2 rfl (by decide) (.slice ao4 k cap4) k (tms (R.take k)) ho4.out rfl wr.heap.size 1 1 [.string ⟨x.toArray⟩, .int .i64 a] rfl rfl (alloc_last _ _ _ (by simp)) (by rfl) (by omega) (by omega) ?_; intro ao7 cap7 w7 hr7 hu7 hf7; have hr7h := Lib.hid hr7; have hu7h := Lib.hid hu7; have hf7h := Lib.hid hf7; clear hr7 hu7 hf7; have U7 : Upd0 w3 w7 := Upd.trans (by (repeat (first | (with_reducible exact Upd.refl _ _) | (with_reducible assumption) | (with_reducible apply Upd.drew) | (with_reducible apply Upd.alloc) | (refine Upd0.tr ?_ (by with_reducible assumption)) | (refine Upd.setCell ?_ (fun h => absurd h (by first | exact Nat.lt_irrefl _ | (simp only []; omega))) _))); done) hu7h.out (fun q hq hs => absurd hq (by have := (ho.out.lt q hs).1; omega)); have hb7 := Lib.hid (U7.block (fun h => h) hb3h.out); have f70 : w7.cell? ⟨b, 0, none⟩ = some (.int .i64 room) := (by rw [blk_cell hb7.out]; rfl); have f71 : w7.cell? ⟨b, 1, none⟩ = some (.slice (some ⟨g, o, none⟩) R.length k) := (by rw [blk_cell hb7.out]; rfl); have f7f : w7.frozen? ⟨b, 1, none⟩ = false := blk_frz hb7.out 1; have hz7 := U7.size; have ho7 := Lib.hid (ownsRow_mono (B' := 0) hr7h.out (fun _ _ => Nat.zero_le _)); have hr7r := Lib.hid (hr3h.out.up U7); clear tkX _t))
                    | (at_builtin; have _u := tkZ; (refine wpList_appx (w := w7) (by (repeat (first | exact Ext.refl _ | assumption | apply Ext.drew | apply Ext.alloc)); done) rfl (.tmp 97) (.tmp 103) 29 rfl 43 i1 _ 2 24 Try.underlying29 hj hy0 hy1 hy2 rfl (by decide) (.slice ao7 (k + 1) cap7) (k + 1) (tms (R.take k) ++ [.string ⟨x.toArray⟩, .int .i64 a]) ho7.out rfl ⟨g, o, none⟩ m 0 (tms (R.drop k)) rfl (by rw [tms, flat_len tm_len, List.length_drop]; omega) (fun j u hu => absurd hu (by rw [hd0.out]; simp [tms])) (fun u hu => tms_one hu) (by omega) (by omega) ?_; clear tkZ _u; intro ao8 cap8 w8 hr8 hu8 hf8; have hr8h := Lib.hid hr8; have hu8h := Lib.hid hu8; have hf8h := Lib.hid hf8; clear hr8 hu8 hf8; have U8 : Upd0 w3 w8 := Upd.trans U7 hu8h.out (fun q hq hs => absurd hq (by rcases hf7h.out q hs with h | h; have := (ho.out.lt q h).1; omega; simp at h; omega)); have hb8 := Lib.hid (U8.block (fun h => h) hb3h.out); have f80 : w8.cell? ⟨b, 0, none⟩ = some (.int .i64 room) := (by rw [blk_cell hb8.out]; rfl); have f81 : w8.cell? ⟨b, 1, none⟩ = some (.slice (some ⟨g, o, none⟩) R.length k) := (by rw [blk_cell hb8.out]; rfl); have f8f : w8.frozen? ⟨b, 1, none⟩ = false := blk_frz hb8.out 1))
                    | (with_reducible refine wp_serial (by kernel_rfl) (by kernel_rfl) (by (repeat (first | (with_reducible apply NoBad.then) | (with_reducible apply NoBad.inBlock) | (with_reducible apply NoBad.jump) | (with_reducible exact NoBad.rets))); done) ?_) | fail)
                  have hst := Lib.hid (k3.out.storeN (L' := insL R ⟨x, a⟩) (n := k + 1 + m) U8 (by rw [hin.out]; simp; omega) (own_cap hr8h.out) (TmR.own' hr8h.out (by rw [hin.out]; simp [tms, Tm.cells])))
                  all_goals go_returns
                  all_goals exact ⟨by rw [hf.out.1]; rfl, Upd.trans U3 hst.out.2 (fun _ _ h => h), by rw [hf.out.2]; exact hst.out.1⟩
                · 
                  have tkX : True := trivial
                  have tkZ : True := trivial
                  go_wp2_with (first
                    | (at_builtin; have _t := tkX; (refine wpList_app (w := wr) (by (repeat (first | exact Ext.refl _ | assumption | apply Ext.drew | apply Ext.alloc)); done) rfl (.tmp 92) (.tmp 94) 29 rfl 43 i1 _ 2 24 Try.underlying29 hj hy0 hy1 hy2 rfl (by decide) (.slice ao4 k cap4) k (tms (R.take k)) ho4.out rfl wr.heap.size 1 1 [.string ⟨x.toArray⟩, .int .i64 a] rfl rfl (alloc_last _ _ _ (by simp)) (by rfl) (by omega) (by omega) ?_; intro ao7 cap7 w7 hr7 hu7 hf7; have hr7h := Lib.hid hr7; have hu7h := Lib.hid hu7; have hf7h := Lib.hid hf7; clear hr7 hu7 hf7; have U7 : Upd0 w3 w7 := Upd.trans (by (repeat (first | (with_reducible exact Upd.refl _ _) | (with_reducible assumption) | (with_reducible apply Upd.drew) | (with_reducible apply Upd.alloc) | (refine Upd0.tr ?_ (by with_reducible assumption)) | (refine Upd.setCell ?_ (fun h => absurd h (by first | exact Nat.lt_irrefl _ | (simp only []; omega))) _))); done) hu7h.out (fun q hq hs => absurd hq (by have := (ho.out.lt q hs).1; omega)); have hb7 := Lib.hid (U7.block (fun h => h) hb3h.out); have f70 : w7.cell? ⟨b, 0, none⟩ = some (.int .i64 room) := (by rw [blk_cell hb7.out]; rfl); have f71 : w7.cell? ⟨b, 1, none⟩ = some (.slice (some ⟨g, o, none⟩) R.length cap5) := (by rw [blk_cell hb7.out]; rfl); have f7f : w7.frozen? ⟨b, 1, none⟩ = false := blk_frz hb7.out 1; have hz7 := U7.size; have ho7 := Lib.hid (ownsRow_mono (B' := 0) hr7h.out (fun _ _ => Nat.zero_le _)); have hr7r := Lib.hid (hr3h.out.up U7); clear tkX _t))
                    | (at_builtin; have _u := tkZ; (refine wpList_appx (w := w7) (by (repeat (first | exact Ext.refl _ | assumption | apply Ext.drew | apply Ext.alloc)); done) rfl (.tmp 97) (.tmp 103) 29 rfl 43 i1 _ 2 24 Try.underlying29 hj hy0 hy1 hy2 rfl (by decide) (.slice ao7 (k + 1) cap7) (k + 1) (tms (R.take k) ++ [.string ⟨x.toArray⟩, .int .i64 a]) ho7.out rfl ⟨g, o + k * 2, none⟩ m (cap5 - k) (tms (R.drop k)) rfl (by rw [tms, flat_len tm_len, List.length_drop]; omega) (fun j u hu => absurd hu (by rw [hd0.out]; simp [tms])) (fun u hu => tms_one hu) (by omega) (by omega) ?_; clear tkZ _u; intro ao8 cap8 w8 hr8 hu8 hf8; have hr8h := Lib.hid hr8; have hu8h := Lib.hid hu8; have hf8h := Lib.hid hf8; clear hr8 hu8 hf8; have U8 : Upd0 w3 w8 := Upd.trans U7 hu8h.out (fun q hq hs => absurd hq (by rcases hf7h.out q hs with h | h; have := (ho.out.lt q h).1; omega; simp at h; omega)); have hb8 := Lib.hid (U8.block (fun h => h) hb3h.out); have f80 : w8.cell? ⟨b, 0, none⟩ = some (.int .i64 room) := (by rw [blk_cell hb8.out]; rfl); have f81 : w8.cell? ⟨b, 1, none⟩ = some (.slice (some ⟨g, o, none⟩) R.length cap5) := (by rw [blk_cell hb8.out]; rfl); have f8f : w8.frozen? ⟨b, 1, none⟩ = false := blk_frz hb8.out 1))
                    | (with_reducible refine wp_serial (by kernel_rfl) (by kernel_rfl) (by (repeat (first | (with_reducible apply NoBad.then) | (with_reducible apply NoBad.inBlock) | (with_reducible apply NoBad.jump) | (with_reducible exact NoBad.rets))); done) ?_) | fail)
                  have hst := Lib.hid (k3.out.storeN (L' := insL R ⟨x, a⟩) (n := k + 1 + m) U8 (by rw [hin.out]; simp; omega) (own_cap hr8h.out) (TmR.own' hr8h.out (by rw [hin.out]; simp [tms, Tm.cells])))
                  all_goals go_returns
                  all_goals exact ⟨by rw [hf.out.1]; rfl, Upd.trans U3 hst.out.2 (fun _ _ h => h), by rw [hf.out.2]; exact hst.out.1⟩
end Go.Proofs.Ytkkncnffkmopbaa
