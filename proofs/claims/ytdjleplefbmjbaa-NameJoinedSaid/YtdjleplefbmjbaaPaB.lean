/-
  A text parsed: the program's Parse.
-/
import Derived.Test.YtdjleplefbmjbaaPaA
namespace Go.Proofs.Ytdjleplefbmjbaa
open Go.RowKit
set_option linter.unusedSimpArgs false
set_option linter.unusedVariables false
theorem row_ne {W : World} {B B' n : Nat} {v v' : Value} {l : Bs} {xs : List Value} (ho : W.ownsRow B 9 1 v n xs) (hb : BR U8 B' W v' l) : ∀ g, v.ownBlock = some g → v'.ownBlock ≠ some g := by
  intro g hg hg'
  obtain ⟨ao, cap, rfl⟩ := ownsRow_slice ho
  rcases hb with ⟨rfl, _⟩ | ⟨g', cap', cur', fz, rfl, _, h2, _⟩
  · cases hg'
  · rcases ho.2 with ⟨h, _⟩ | ⟨g'', cap'', cur'', hv, _, h3, _⟩
    · cases h; cases hg
    · rw [hv] at hg
      simp only [Value.ownBlock, Option.some.injEq] at hg hg'
      cases hg
      cases hg'
      rw [h2] at h3
      injection h3 with h3
      injection h3 with _ h4 _
      exact absurd h4 (by decide)
theorem jnS_len (L : List Bs) : (jnS L).length ≤ 254 := by
  unfold jnS
  cases hJ : jnB L
  · simp
  · simp only [jnB, Bool.and_eq_true, decide_eq_true_eq] at hJ; exact hJ.2
theorem parS_none {s : Bs} (h : parO s = none) : parS s = [] ∧ parC s = 2 := by rw [parS, parC, h]; exact ⟨rfl, rfl⟩
theorem parS_some {s n : Bs} (h : parO s = some n) : parS s = n ∧ parC s = 0 := by rw [parS, parC, h]; exact ⟨rfl, rfl⟩
theorem parO_of {s : Bs} (hs : s ≠ [46]) {L : List Bs} (h : parP s [] = some L) : parO s = if isTxt L s then some (jn L) else none := by rw [parO, if_neg hs, h]
theorem parO_no {s : Bs} (hs : s ≠ [46]) (h : parP s [] = none) : parO s = none := by rw [parO, if_neg hs, h]
set_option maxRecDepth 100000 in
set_option maxHeartbeats 2000000 in
theorem parse_w (s : Bs) (hm : s.length ≤ 70000) (w : World) : Calls Try.prog 19 #[.string ⟨s.toArray⟩] w (Rets fun r w' => r = .tuple #[.string ⟨(parS s).toArray⟩, .int .i64 (parC s)] ∧ Upd0 w w') := by
  by_cases hs : s = [46]
  · subst hs
    have hf := Lib.hid (show parS [46] = [] ∧ parC [46] = 0 from ⟨rfl, rfl⟩)
    go_enter Try.func19, Try.ntmps19
    go_wp2_with (first | (with_reducible refine wp_serial (by kernel_rfl) (by kernel_rfl) (by (repeat (first | (with_reducible apply NoBad.then) | (with_reducible apply NoBad.inBlock) | (with_reducible exact NoBad.rets))); done) ?_) | fail)
    all_goals go_returns
    all_goals exact ⟨by rw [hf.out.1, hf.out.2]; rfl, (by (repeat (first | (with_reducible exact Upd.refl _ _) | (with_reducible assumption) | (with_reducible apply Upd.drew) | (with_reducible apply Upd.alloc) | (refine Upd0.tr ?_ (by with_reducible assumption)) | (refine Upd.setCell ?_ (fun h => absurd h (by first | exact Nat.lt_irrefl _ | (simp only []; omega))) _))); done)⟩
  obtain ⟨i0, hi, hz0, hz1, hz2⟩ := info_parts info_u8
  obtain ⟨i1, hj, hy0, hy1, hy2⟩ := info_parts info_str
  have hs46 : (s == [46]) = false := beq_eq_false_iff_ne.2 hs
  have hsh := Lib.hid hs
  clear hs
  go_enter Try.func19, Try.ntmps19
  go_wp2_with (first | (with_reducible refine wp_serial (by kernel_rfl) (by kernel_rfl) (by (repeat (first | (with_reducible apply NoBad.then) | (with_reducible apply NoBad.inBlock) | (with_reducible exact NoBad.rets))); done) ?_) | fail)
  go_loopw [4, 5, 6] (fun l b i wr => ∃ (at_ : Nat) (acc : List Bs) (lbl : Bs) (ao bo : Option Addr) (ca cb : Nat), at_ ≤ s.length ∧ i = .int .i64 at_ ∧ l = .slice ao acc.length ca ∧ b = .slice bo lbl.length cb ∧ acc.length ≤ at_ ∧ lbl.length ≤ at_ ∧ Upd0 w wr ∧
      Hid (wr.ownsRow w.heap.size 9 1 (.slice ao acc.length ca) acc.length (strs acc)) ∧ Hid (BR U8 w.heap.size wr (.slice bo lbl.length cb) lbl) ∧ Hid (parP s [] = (parP (s.drop at_) lbl).map (acc ++ ·))) (fun _ _ i _ => s.length - (intOf i).toNat)
  case atStart => exact ⟨0, [], [], none, none, 0, 0, Nat.zero_le _, rfl, rfl, rfl, Nat.le_refl _, Nat.le_refl _, Upd.refl _ _, Lib.hid (World.ownsRow_nil _ _ _ _), Lib.hid (BR.none0 _ _ _), Lib.hid (by simp)⟩
  case round =>
    obtain ⟨k, acc, lbl, ao, bo, ca, cb, hk, rfl, rfl, rfl, hal, hll, hu, ho, hb, hp⟩ := hrel
    have hsz := hu.size
    by_cases hlt : k < s.length
    · have hne : s.drop k ≠ [] := by intro e; have := congrArg List.length e; simp at this; omega
      have hnw := next_w (s.drop k) hne (by simp; omega)
      have hps := parP_step lbl hne
      have hpos := nx_pos (s.drop k)
      obtain ⟨c, n, e, hnx⟩ : ∃ c n e, nx (s.drop k) = (c, n, e) := ⟨_, _, _, rfl⟩
      rw [hnx] at hnw hps hpos
      simp only [List.length_drop] at hpos
      have hnh := Lib.hid hnw
      clear hnw hnx hne
      cases n with
      | zero =>
        have hf := Lib.hid (parS_none (parO_no hsh.out (by rw [hp.out, hps, if_pos rfl]; rfl)))
        clear hps
        go_wp2_with (first
          | (go_at_call 49; refine (hnh.out _).use ?_; rintro v w2 ⟨rfl, hu2⟩)
          | (with_reducible refine wp_serial (by kernel_rfl) (by kernel_rfl) (by (repeat (first | (with_reducible apply NoBad.then) | (with_reducible apply NoBad.inBlock) | (with_reducible exact NoBad.rets))); done) ?_) | fail)
        all_goals go_returns
        all_goals exact ⟨by rw [hf.out.1, hf.out.2]; rfl, (by (repeat (first | (with_reducible exact Upd.refl _ _) | (with_reducible assumption) | (with_reducible apply Upd.drew) | (with_reducible apply Upd.alloc) | (refine Upd0.tr ?_ (by with_reducible assumption)) | (refine Upd.setCell ?_ (fun h => absurd h (by first | exact Nat.lt_irrefl _ | (simp only []; omega))) _))); done)⟩
      | succ n =>
        have hn0 : (((n + 1 : Nat) : Int) == 0) = false := by rw [beq_eq_false_iff_ne]; omega
        rw [if_neg (by simp), List.drop_drop] at hps
        cases e with
        | true =>
          have hst := Lib.hid (show parP s [] = (parP (s.drop (k + (n + 1))) []).map ((acc ++ [lbl]) ++ ·) by
            rw [hp.out, hps]; simp only [if_true]; cases parP (s.drop (k + (n + 1))) [] <;> simp)
          clear hps
          go_wp2_with (first
            | (go_at_call 49; refine (hnh.out _).use ?_; rintro v w2 ⟨rfl, hu2⟩)
            | (refine wpList_ofB rfl (.tmp 35) 74 9 rfl 5 Try.underlying74 Try.underlying5 Try.underlying9 rfl (hb.out.up hu2) ?_)
            | (at_builtin; refine wpList_app (w := w2) (by (repeat (first | exact Ext.refl _ | assumption | apply Ext.drew | apply Ext.alloc)); done) rfl (.tmp 34) (.tmp 37) 40 rfl 9 i1 (.string .empty) 1 16 Try.underlying40 hj hy0 hy1 hy2 rfl (by decide) (.slice ao acc.length ca) acc.length (strs acc) (ownsRow_mono (ownsRow_upd ho.out hu2 (fun _ _ h => h)) (fun _ _ => Nat.zero_le _)) rfl w2.heap.size 1 1 [.string ⟨lbl.toArray⟩] rfl rfl (alloc_last _ _ _ (by simp)) (by rfl) (by omega) (by omega) ?_; intro ao' cap' w3 hown' hu3 hf3; have hown3 := Lib.hid hown'; have hf3h := Lib.hid hf3; clear hown' hf3)
            | (with_reducible refine wp_serial (by kernel_rfl) (by kernel_rfl) (by (repeat (first | (with_reducible apply NoBad.then) | (with_reducible apply NoBad.inBlock) | (with_reducible exact NoBad.rets))); done) ?_) | fail)
          have hU : Upd0 w w3 := Upd.trans (show Upd0 w (w2.alloc _) from (by (repeat (first | (with_reducible exact Upd.refl _ _) | (with_reducible assumption) | (with_reducible apply Upd.drew) | (with_reducible apply Upd.alloc) | (refine Upd0.tr ?_ (by with_reducible assumption)) | (refine Upd.setCell ?_ (fun h => absurd h (by first | exact Nat.lt_irrefl _ | (simp only []; omega))) _))); done)) hu3 (fun q hq hs => absurd hq (by have := (ho.out.lt q hs).1; omega))
          go_roundw
          case rel => exact ⟨k + (n + 1), acc ++ [lbl], [], ao', none, cap', 0, by omega, by go_num, by simp, rfl, by simp; omega, by simp, hU, Lib.hid (by
            have h3 : w3.ownsRow w.heap.size 9 1 (.slice ao' (acc.length + 1) cap') (acc.length + 1) (strs acc ++ [.string ⟨lbl.toArray⟩]) := ownsRow_mono hown3.out (fun q hq => by
              rcases hf3h.out q hq with h | h
              · exact (ho.out.lt q h).1
              · have := hu2.size; simp only [World.size_alloc] at h; omega)
            have e : strs (acc ++ [lbl]) = strs acc ++ [.string ⟨lbl.toArray⟩] := by simp [strs]
            rw [e, List.length_append]; exact h3), Lib.hid (BR.none0 _ _ _), hst⟩
          case measure => simp [intOf]; omega
        | false =>
          have hst := Lib.hid (show parP s [] = (parP (s.drop (k + (n + 1))) (lbl ++ [c])).map (acc ++ ·) by
            rw [hp.out, hps]; rfl)
          clear hps
          go_wp2_with (first
            | (go_at_call 49; refine (hnh.out _).use ?_; rintro v w2 ⟨rfl, hu2⟩)
            | (at_builtin; refine wpList_appB rfl (.tmp 39) (.tmp 41) 74 rfl 5 i0 Try.underlying74 hi hz0 hz1 hz2 [c] rfl (hb.out.up (by (repeat (first | (with_reducible exact Upd.refl _ _) | (with_reducible assumption) | (with_reducible apply Upd.drew) | (with_reducible apply Upd.alloc) | (refine Upd0.tr ?_ (by with_reducible assumption)) | (refine Upd.setCell ?_ (fun h => absurd h (by first | exact Nat.lt_irrefl _ | (simp only []; omega))) _))); done)) (by simp only [World.size_alloc]; have := hu2.size; omega) w2.heap.size 1 1 _ rfl (alloc_last _ _ _ (by simp)) rfl rfl (by simp; omega) ?_; intro bo' cap' w3 hb3 hu3 hf3; have hb3h := Lib.hid hb3; have hf3h := Lib.hid hf3; clear hb3 hf3)
            | (with_reducible refine wp_serial (by kernel_rfl) (by kernel_rfl) (by (repeat (first | (with_reducible apply NoBad.then) | (with_reducible apply NoBad.inBlock) | (with_reducible exact NoBad.rets))); done) ?_) | fail)
          have hU : Upd0 w w3 := Upd.trans (show Upd0 w (w2.alloc _) from (by (repeat (first | (with_reducible exact Upd.refl _ _) | (with_reducible assumption) | (with_reducible apply Upd.drew) | (with_reducible apply Upd.alloc) | (refine Upd0.tr ?_ (by with_reducible assumption)) | (refine Upd.setCell ?_ (fun h => absurd h (by first | exact Nat.lt_irrefl _ | (simp only []; omega))) _))); done)) hu3 (fun q hq hs => absurd hq (by have := (hb.out.lt hs).1; omega))
          have ho3 := Lib.hid (ownsRow_upd (ownsRow_upd ho.out (show Upd0 wr (w2.alloc (.cells #[.int .u8 c.toNat] 5)) from (by (repeat (first | (with_reducible exact Upd.refl _ _) | (with_reducible assumption) | (with_reducible apply Upd.drew) | (with_reducible apply Upd.alloc) | (refine Upd0.tr ?_ (by with_reducible assumption)) | (refine Upd.setCell ?_ (fun h => absurd h (by first | exact Nat.lt_irrefl _ | (simp only []; omega))) _))); done)) (fun _ _ h => h)) hu3 (fun g hg => row_ne ho.out hb.out g hg))
          go_roundw
          case rel => exact ⟨k + (n + 1), acc, lbl ++ [c], ao, bo', ca, cap', by omega, by go_num, rfl, by simp, by omega, by simp; omega, hU, ho3, Lib.hid (by rw [List.length_append]; exact hb3h.out), hst⟩
          case measure => simp [intOf]; omega
    · have hpp : parP s [] = some acc := by rw [hp.out, List.drop_of_length_le (by omega), parP_nil]; simp
      have hO := parO_of hsh.out hpp
      clear hpp hp
      have hjl := jnS_len acc
      cases hJ : jnB acc with
      | false =>
        have hf := parS_none (hO.trans (by rw [if_neg (by rw [isTxt, hJ]; simp)]))
        have hfh := Lib.hid hf
        have hj := Lib.hid (show jnC acc = 1 by rw [jnC, hJ]; rfl)
        clear hf hO hJ
        go_wp2_with (first
          | (go_at_call 32; (with_reducible refine (join_w ao ca acc wr (own_sr ho.out rfl) (by omega)).use ?_); rintro v w2 ⟨rfl, hu2⟩; rw [hj.out])
          | (go_at_call 17; (with_reducible refine (print_w (jnS acc) (by omega) _).use ?_); rintro v w3 ⟨rfl, hu3⟩)
          | (with_reducible refine wp_serial (by kernel_rfl) (by kernel_rfl) (by (repeat (first | (with_reducible apply NoBad.then) | (with_reducible apply NoBad.inBlock) | (with_reducible exact NoBad.rets))); done) ?_) | fail)
        all_goals go_returns
        all_goals exact ⟨by rw [hfh.out.1, hfh.out.2]; rfl, (by (repeat (first | (with_reducible exact Upd.refl _ _) | (with_reducible assumption) | (with_reducible apply Upd.drew) | (with_reducible apply Upd.alloc) | (refine Upd0.tr ?_ (by with_reducible assumption)) | (refine Upd.setCell ?_ (fun h => absurd h (by first | exact Nat.lt_irrefl _ | (simp only []; omega))) _))); done)⟩
      | true =>
        have hj : jnC acc = 0 ∧ jnS acc = jn acc := ⟨by rw [jnC, hJ]; rfl, by rw [jnS, hJ]; rfl⟩
        have hpr := prn_jn hJ
        rw [← hj.2] at hpr
        by_cases hE : prnL acc = s
        · have hf := Lib.hid (parS_some (hO.trans (by rw [if_pos (by rw [isTxt, hJ, hE]; simp)])))
          rw [hE] at hpr
          have hjh := Lib.hid hj
          have hph := Lib.hid hpr
          clear hO hJ hj hpr hE
          go_wp2_with (first
            | (go_at_call 32; (with_reducible refine (join_w ao ca acc wr (own_sr ho.out rfl) (by omega)).use ?_); rintro v w2 ⟨rfl, hu2⟩; rw [hjh.out.1])
            | (go_at_call 17; (with_reducible refine (print_w (jnS acc) (by omega) _).use ?_); rintro v w3 ⟨rfl, hu3⟩; rw [hph.out.1, hph.out.2])
            | (with_reducible refine wp_serial (by kernel_rfl) (by kernel_rfl) (by (repeat (first | (with_reducible apply NoBad.then) | (with_reducible apply NoBad.inBlock) | (with_reducible exact NoBad.rets))); done) ?_) | fail)
          all_goals go_returns
          all_goals exact ⟨by rw [hf.out.1, hf.out.2, ← hjh.out.2]; rfl, (by (repeat (first | (with_reducible exact Upd.refl _ _) | (with_reducible assumption) | (with_reducible apply Upd.drew) | (with_reducible apply Upd.alloc) | (refine Upd0.tr ?_ (by with_reducible assumption)) | (refine Upd.setCell ?_ (fun h => absurd h (by first | exact Nat.lt_irrefl _ | (simp only []; omega))) _))); done)⟩
        · have hfh := Lib.hid (parS_none (hO.trans (by rw [if_neg (by rw [isTxt, hJ]; simpa using hE)])))
          have hEb : (prnL acc == s) = false := beq_eq_false_iff_ne.2 hE
          have hjh := Lib.hid hj
          have hph := Lib.hid hpr
          clear hO hJ hj hpr hE
          go_wp2_with (first
            | (go_at_call 32; (with_reducible refine (join_w ao ca acc wr (own_sr ho.out rfl) (by omega)).use ?_); rintro v w2 ⟨rfl, hu2⟩; rw [hjh.out.1])
            | (go_at_call 17; (with_reducible refine (print_w (jnS acc) (by omega) _).use ?_); rintro v w3 ⟨rfl, hu3⟩; rw [hph.out.1, hph.out.2])
            | (with_reducible refine wp_serial (by kernel_rfl) (by kernel_rfl) (by (repeat (first | (with_reducible apply NoBad.then) | (with_reducible apply NoBad.inBlock) | (with_reducible exact NoBad.rets))); done) ?_) | fail)
          all_goals go_returns
          all_goals exact ⟨by rw [hfh.out.1, hfh.out.2]; rfl, (by (repeat (first | (with_reducible exact Upd.refl _ _) | (with_reducible assumption) | (with_reducible apply Upd.drew) | (with_reducible apply Upd.alloc) | (refine Upd0.tr ?_ (by with_reducible assumption)) | (refine Upd.setCell ?_ (fun h => absurd h (by first | exact Nat.lt_irrefl _ | (simp only []; omega))) _))); done)⟩
end Go.Proofs.Ytdjleplefbmjbaa
