/-
  BailTwice: the walk.
-/
import Derived.Test.YtijmbpokglohbaaBaX
import Derived.Test.YtijmbpokglohbaaKd
namespace Go.Proofs.Ytijmbpokglohbaa
open Go.RowKit
set_option linter.unusedSimpArgs false
set_option linter.unusedVariables false
theorem sr_drop {w : World} {g o : Nat} {L : List Bs} (h : SR w (some ⟨g, o, none⟩) L) (i : Nat) : SR w (some ⟨g, o + i, none⟩) (L.drop i) := by
  rcases h with rfl | ⟨g', o', e, hg, hc⟩
  · exact .inl (by simp)
  · injection e with e; injection e with e1 e2 e3
    subst e1 e2
    refine .inr ⟨g, o + i, rfl, hg, fun j x hx => ?_⟩
    rw [List.getElem?_drop] at hx
    have := hc (i + j) x hx
    rwa [Nat.add_assoc]
theorem mid_wit {l : List Rc} {z : Bs} (h : midR l) : midR (witL l z) := ⟨Nat.le_trans (wit_len l z) h.1, fun x hx => h.2 x (wit_mem hx).1⟩
def twA (l : List Rc) (z : Bs) : List Rc := witL l z
theorem cutL_bad {z : Bs} (h : cutB z = false) : cutL z = [] := cutL_no h
set_option maxRecDepth 100000 in
set_option maxHeartbeats 4000000 in
theorem bailTwice_walk (ao : Option Addr) (cap : Nat) (l : List Rc) (z : Bs) (w : World) (h : RsR w ao l) (hl : l.length ≤ maxLen) :
    Calls Try.prog 8 #[.slice ao l.length cap, .string ⟨z.toArray⟩] w (Rets fun r w' => r = .bool true ∧ Upd0 w w') := by
  have hF := Lib.hid (fun (w' : World) (u : Upd0 w w') => short_w ao cap l w' (h.up u) hl)
  have hways : shB l = false ∨ (shB l = true ∧ (300 : Int) < z.length) ∨ (shB l = true ∧ ¬ (300 : Int) < z.length) := by
    cases shB l <;> by_cases h1 : (300 : Int) < z.length <;> simp [h1]
  rcases hways with e | ⟨e, l1⟩ | ⟨e, l1⟩
  case inr.inr =>
    have hm := shB_mid e
    have hmw := mid_wit (z := z) hm
    have hW := Lib.hid (fun (w' : World) (u : Upd0 w w') => within_bw ao cap l z w' (h.up u) hm.1 hm.2 (by omega))
    have hW2 := Lib.hid (fun (a' : Option Addr) (c' : Nat) (w' : World) (hr : RsR w' a' (witL l z)) => within_bw a' c' (witL l z) z w' hr hmw.1 hmw.2 (by omega))
    have hW3 := Lib.hid (fun (i : Nat) (hc : cutB z = true) (a' : Option Addr) (c' : Nat) (w' : World) (hr : RsR w' a' (witL l z)) => within_bw a' c' (witL l z) (jn ((cutL z).drop i)) w' hr hmw.1 hmw.2 (by have := (und_up hc i).1; simp only [jnB, Bool.and_eq_true, decide_eq_true_eq] at this; omega))
    simp only [wit_wit] at hW2
    have hwl := wit_len l z
    have hEl := hmw.1
    have hll := hm.1
    have hLa := Lib.hid (rlabels_w z (by omega))
    have hCk := Lib.hid (rcheck_any z (by unfold maxLen; omega))
    have hLl := cutL_le z
    rw [e] at hF
    cases hcz : cutB z with
    | false =>
      rw [cutL_bad hcz] at hLa
      simp only [List.length_nil] at hLa
      obtain ⟨A, hA⟩ : ∃ A, witL l z = A := ⟨_, rfl⟩
      rw [hA] at hW hW2 hEl hwl
      clear h e hA hm hmw hW3 hcz hLl
      have tk1 : True := trivial
      go_enter Try.func8, Try.ntmps8
      go_wp2_with (first
        | (go_at_call 24; (with_reducible refine (hF.out _ (by (repeat (first | (with_reducible exact Upd.refl _ _) | (with_reducible assumption) | (with_reducible apply Upd.drew) | (with_reducible apply Upd.alloc) | (refine Upd0.tr ?_ (by with_reducible assumption)) | (refine Upd.setCell ?_ (fun h => absurd h (by first | exact Nat.lt_irrefl _ | (simp only []; omega))) _))); done)).use ?_); rintro v w1 ⟨rfl, hu1⟩)
        | (go_at_call 22; have _t := tk1; clear tk1 _t; (with_reducible refine (hW.out _ (by (repeat (first | (with_reducible exact Upd.refl _ _) | (with_reducible assumption) | (with_reducible apply Upd.drew) | (with_reducible apply Upd.alloc) | (refine Upd0.tr ?_ (by with_reducible assumption)) | (refine Upd.setCell ?_ (fun h => absurd h (by first | exact Nat.lt_irrefl _ | (simp only []; omega))) _))); done)).use ?_); rintro v w2 ⟨a2, c2, rfl, hr2, hu2, hf2⟩; have hr2h := Lib.hid hr2; clear hr2 hf2)
        | (go_at_call 22; (with_reducible refine (hW2.out _ _ _ (hr2h.out.up (by (repeat (first | (with_reducible exact Upd.refl _ _) | (with_reducible assumption) | (with_reducible apply Upd.drew) | (with_reducible apply Upd.alloc) | (refine Upd0.tr ?_ (by with_reducible assumption)) | (refine Upd.setCell ?_ (fun h => absurd h (by first | exact Nat.lt_irrefl _ | (simp only []; omega))) _))); done))).use ?_); rintro v w3 ⟨a3, c3, rfl, hr3, hu3, hf3⟩; have hr3h := Lib.hid hr3; clear hr3 hf3; have hr2i := Lib.hid (hr2h.out.up (show Upd0 w2 w3 from (by (repeat (first | (with_reducible exact Upd.refl _ _) | (with_reducible assumption) | (with_reducible apply Upd.drew) | (with_reducible apply Upd.alloc) | (refine Upd0.tr ?_ (by with_reducible assumption)) | (refine Upd.setCell ?_ (fun h => absurd h (by first | exact Nat.lt_irrefl _ | (simp only []; omega))) _))); done))))
        | (go_at_call 21; (with_reducible refine (rsameR_w _ _ _ _ A _ hr3h.out hr2i.out hEl).use ?_); rintro v w4 ⟨rfl, hu4⟩)
        | (go_at_call 27; (with_reducible refine (hLa.out _).use ?_); rintro v w5 ⟨a5, c5, rfl, ho5, hu5⟩; clear ho5; have hu9 := Lib.hid (show Upd0 w w5 from (by (repeat (first | (with_reducible exact Upd.refl _ _) | (with_reducible assumption) | (with_reducible apply Upd.drew) | (with_reducible apply Upd.alloc) | (refine Upd0.tr ?_ (by with_reducible assumption)) | (refine Upd.setCell ?_ (fun h => absurd h (by first | exact Nat.lt_irrefl _ | (simp only []; omega))) _))); done)))
        | (with_reducible refine wp_serial (by kernel_rfl) (by kernel_rfl) (by (repeat (first | (with_reducible apply NoBad.then) | (with_reducible apply NoBad.inBlock) | (with_reducible apply NoBad.jump) | (with_reducible exact NoBad.rets))); done) ?_) | fail)
      go_loopw [7, 8, 9] (fun ii _ _ wr => ii = .int .i64 0 ∧ Upd0 w wr) (fun _ _ _ _ => 0)
      case atStart => exact ⟨rfl, hu9.out⟩
      case round =>
        obtain ⟨rfl, hu⟩ := hrel
        go_wp2_with (first
          | (go_at_call 16; (with_reducible refine (blive_w _).use ?_); rintro v w6 ⟨rfl, hu6⟩)
          | (with_reducible refine wp_serial (by kernel_rfl) (by kernel_rfl) (by (repeat (first | (with_reducible apply NoBad.then) | (with_reducible apply NoBad.inBlock) | (with_reducible apply NoBad.jump) | (with_reducible exact NoBad.rets))); done) ?_) | fail)
        all_goals go_returns
        all_goals exact ⟨rfl, (by (repeat (first | (with_reducible exact Upd.refl _ _) | (with_reducible assumption) | (with_reducible apply Upd.drew) | (with_reducible apply Upd.alloc) | (refine Upd0.tr ?_ (by with_reducible assumption)) | (refine Upd.setCell ?_ (fun h => absurd h (by first | exact Nat.lt_irrefl _ | (simp only []; omega))) _))); done)⟩
    | true =>
      have hCk2 := Lib.hid (show checkC z = 0 by rw [checkC, hcz]; rfl)
      rw [hCk2.out] at hCk
      have hW3' := Lib.hid (fun (i : Nat) (a' : Option Addr) (c' : Nat) (w' : World) (hr : RsR w' a' (witL l z)) => hW3.out i hcz a' c' w' hr)
      simp only [wit_up hcz] at hW3'
      have hJo := Lib.hid (fun (i : Nat) (a' : Option Addr) (c' : Nat) (w' : World) (hr : SR w' a' ((cutL z).drop i)) => (rjoin_w a' c' ((cutL z).drop i) w' hr (by simp; omega)).use (R := Rets fun r w'' => r = .tuple #[.string ⟨(jn ((cutL z).drop i)).toArray⟩, .int .i64 (jnC ((cutL z).drop i))] ∧ Upd0 w' w'') (fun v w'' hq => by rw [jnS, (und_up hcz i).1, if_pos rfl] at hq; exact hq))
      simp only [List.length_drop] at hJo
      obtain ⟨A, hA⟩ : ∃ A, witL l z = A := ⟨_, rfl⟩
      rw [hA] at hW hW2 hW3' hEl hwl
      obtain ⟨L, hL⟩ : ∃ L, cutL z = L := ⟨_, rfl⟩
      rw [hL] at hLa hW3' hJo hLl
      clear h e hA hm hmw hW3 hcz hL hCk2
      have tk1 : True := trivial
      have tk2 : True := trivial
      go_enter Try.func8, Try.ntmps8
      go_wp2_with (first
        | (go_at_call 24; (with_reducible refine (hF.out _ (by (repeat (first | (with_reducible exact Upd.refl _ _) | (with_reducible assumption) | (with_reducible apply Upd.drew) | (with_reducible apply Upd.alloc) | (refine Upd0.tr ?_ (by with_reducible assumption)) | (refine Upd.setCell ?_ (fun h => absurd h (by first | exact Nat.lt_irrefl _ | (simp only []; omega))) _))); done)).use ?_); rintro v w1 ⟨rfl, hu1⟩)
        | (go_at_call 22; have _t := tk1; clear tk1 _t; (with_reducible refine (hW.out _ (by (repeat (first | (with_reducible exact Upd.refl _ _) | (with_reducible assumption) | (with_reducible apply Upd.drew) | (with_reducible apply Upd.alloc) | (refine Upd0.tr ?_ (by with_reducible assumption)) | (refine Upd.setCell ?_ (fun h => absurd h (by first | exact Nat.lt_irrefl _ | (simp only []; omega))) _))); done)).use ?_); rintro v w2 ⟨a2, c2, rfl, hr2, hu2, hf2⟩; have hr2h := Lib.hid hr2; clear hr2 hf2)
        | (go_at_call 22; (with_reducible refine (hW2.out _ _ _ (hr2h.out.up (by (repeat (first | (with_reducible exact Upd.refl _ _) | (with_reducible assumption) | (with_reducible apply Upd.drew) | (with_reducible apply Upd.alloc) | (refine Upd0.tr ?_ (by with_reducible assumption)) | (refine Upd.setCell ?_ (fun h => absurd h (by first | exact Nat.lt_irrefl _ | (simp only []; omega))) _))); done))).use ?_); rintro v w3 ⟨a3, c3, rfl, hr3, hu3, hf3⟩; have hr3h := Lib.hid hr3; clear hr3 hf3; have hr2i := Lib.hid (hr2h.out.up (show Upd0 w2 w3 from (by (repeat (first | (with_reducible exact Upd.refl _ _) | (with_reducible assumption) | (with_reducible apply Upd.drew) | (with_reducible apply Upd.alloc) | (refine Upd0.tr ?_ (by with_reducible assumption)) | (refine Upd.setCell ?_ (fun h => absurd h (by first | exact Nat.lt_irrefl _ | (simp only []; omega))) _))); done))))
        | (go_at_call 21; (with_reducible refine (rsameR_w _ _ _ _ A _ hr3h.out hr2i.out hEl).use ?_); rintro v w4 ⟨rfl, hu4⟩; have hr2j := Lib.hid (hr2i.out.up (show Upd0 w3 w4 from (by (repeat (first | (with_reducible exact Upd.refl _ _) | (with_reducible assumption) | (with_reducible apply Upd.drew) | (with_reducible apply Upd.alloc) | (refine Upd0.tr ?_ (by with_reducible assumption)) | (refine Upd.setCell ?_ (fun h => absurd h (by first | exact Nat.lt_irrefl _ | (simp only []; omega))) _))); done))))
        | (go_at_call 27; (with_reducible refine (hLa.out _).use ?_); rintro v w5 ⟨a5, c5, rfl, ho5, hu5⟩; obtain ⟨hcp, hcm⟩ := ownsRow_cap ho5; unfold maxLen at hcm; have hs5 := Lib.hid (own_sr ho5 rfl); clear ho5; have hu9 := Lib.hid (show Upd0 w w5 from (by (repeat (first | (with_reducible exact Upd.refl _ _) | (with_reducible assumption) | (with_reducible apply Upd.drew) | (with_reducible apply Upd.alloc) | (refine Upd0.tr ?_ (by with_reducible assumption)) | (refine Upd.setCell ?_ (fun h => absurd h (by first | exact Nat.lt_irrefl _ | (simp only []; omega))) _))); done)); have hr5 := Lib.hid (hr2j.out.up (show Upd0 w4 w5 from (by (repeat (first | (with_reducible exact Upd.refl _ _) | (with_reducible assumption) | (with_reducible apply Upd.drew) | (with_reducible apply Upd.alloc) | (refine Upd0.tr ?_ (by with_reducible assumption)) | (refine Upd.setCell ?_ (fun h => absurd h (by first | exact Nat.lt_irrefl _ | (simp only []; omega))) _))); done))))
        | (with_reducible refine wp_serial (by kernel_rfl) (by kernel_rfl) (by (repeat (first | (with_reducible apply NoBad.then) | (with_reducible apply NoBad.inBlock) | (with_reducible apply NoBad.jump) | (with_reducible exact NoBad.rets))); done) ?_) | fail)
      go_loopw [7, 8, 9] (fun ii _ _ wr => ∃ i : Nat, i ≤ L.length ∧ ii = .int .i64 i ∧ Upd0 w wr ∧ Hid (SR wr a5 L) ∧ Hid (RsR wr a2 A)) (fun ii _ _ _ => L.length - (intOf ii).toNat)
      case atStart => exact ⟨0, Nat.zero_le _, rfl, hu9.out, hs5, hr5⟩
      case round =>
        obtain ⟨i, hi, rfl, hu, hS, hR⟩ := hrel
        by_cases hlt : i < L.length
        · obtain ⟨g, o, rfl, _, _⟩ := hS.out.some hlt
          have n1 : ¬ c5 = i := by omega
          have n2 : ¬ i = c5 := by omega
          have n3 : i ≤ c5 := by omega
          go_wp2_with (first
            | (go_at_call 29; (with_reducible refine (hCk.out _).use ?_); rintro v w6 ⟨rfl, hu6⟩)
            | (go_at_call 30; (with_reducible refine (hJo.out i _ _ _ (sr_drop (hS.out.up (by (repeat (first | (with_reducible exact Upd.refl _ _) | (with_reducible assumption) | (with_reducible apply Upd.drew) | (with_reducible apply Upd.alloc) | (refine Upd0.tr ?_ (by with_reducible assumption)) | (refine Upd.setCell ?_ (fun h => absurd h (by first | exact Nat.lt_irrefl _ | (simp only []; omega))) _))); done)) i)).use ?_); rintro v w7 ⟨rfl, hu7⟩)
            | (go_at_call 22; (with_reducible refine (hW3'.out i _ _ _ (hR.out.up (by (repeat (first | (with_reducible exact Upd.refl _ _) | (with_reducible assumption) | (with_reducible apply Upd.drew) | (with_reducible apply Upd.alloc) | (refine Upd0.tr ?_ (by with_reducible assumption)) | (refine Upd.setCell ?_ (fun h => absurd h (by first | exact Nat.lt_irrefl _ | (simp only []; omega))) _))); done))).use ?_); rintro v w8 ⟨a8, c8, rfl, hr8, hu8, hf8⟩; have hr8h := Lib.hid hr8; clear hr8 hf8; have hRi := Lib.hid (hR.out.up (show Upd0 wr w8 from (by (repeat (first | (with_reducible exact Upd.refl _ _) | (with_reducible assumption) | (with_reducible apply Upd.drew) | (with_reducible apply Upd.alloc) | (refine Upd0.tr ?_ (by with_reducible assumption)) | (refine Upd.setCell ?_ (fun h => absurd h (by first | exact Nat.lt_irrefl _ | (simp only []; omega))) _))); done))))
            | (go_at_call 21; (with_reducible refine (rsameR_w _ _ _ _ A _ hr8h.out hRi.out hEl).use ?_); rintro v w9 ⟨rfl, hu9'⟩)
            | (with_reducible refine wp_serial (by kernel_rfl) (by kernel_rfl) (by (repeat (first | (with_reducible apply NoBad.then) | (with_reducible apply NoBad.inBlock) | (with_reducible apply NoBad.jump) | (with_reducible exact NoBad.rets))); done) ?_) | fail)
          go_roundw
          case rel => exact ⟨i + 1, by omega, by go_num, (by (repeat (first | (with_reducible exact Upd.refl _ _) | (with_reducible assumption) | (with_reducible apply Upd.drew) | (with_reducible apply Upd.alloc) | (refine Upd0.tr ?_ (by with_reducible assumption)) | (refine Upd.setCell ?_ (fun h => absurd h (by first | exact Nat.lt_irrefl _ | (simp only []; omega))) _))); done), Lib.hid (hS.out.up (by (repeat (first | (with_reducible exact Upd.refl _ _) | (with_reducible assumption) | (with_reducible apply Upd.drew) | (with_reducible apply Upd.alloc) | (refine Upd0.tr ?_ (by with_reducible assumption)) | (refine Upd.setCell ?_ (fun h => absurd h (by first | exact Nat.lt_irrefl _ | (simp only []; omega))) _))); done)), Lib.hid (hR.out.up (by (repeat (first | (with_reducible exact Upd.refl _ _) | (with_reducible assumption) | (with_reducible apply Upd.drew) | (with_reducible apply Upd.alloc) | (refine Upd0.tr ?_ (by with_reducible assumption)) | (refine Upd.setCell ?_ (fun h => absurd h (by first | exact Nat.lt_irrefl _ | (simp only []; omega))) _))); done))⟩
          case measure => simp [intOf]; omega
        · go_wp2_with (first
            | (go_at_call 16; (with_reducible refine (blive_w _).use ?_); rintro v w6 ⟨rfl, hu6⟩)
            | (with_reducible refine wp_serial (by kernel_rfl) (by kernel_rfl) (by (repeat (first | (with_reducible apply NoBad.then) | (with_reducible apply NoBad.inBlock) | (with_reducible apply NoBad.jump) | (with_reducible exact NoBad.rets))); done) ?_) | fail)
          all_goals go_returns
          all_goals exact ⟨rfl, (by (repeat (first | (with_reducible exact Upd.refl _ _) | (with_reducible assumption) | (with_reducible apply Upd.drew) | (with_reducible apply Upd.alloc) | (refine Upd0.tr ?_ (by with_reducible assumption)) | (refine Upd.setCell ?_ (fun h => absurd h (by first | exact Nat.lt_irrefl _ | (simp only []; omega))) _))); done)⟩
  all_goals
    clear h
    rw [e] at hF
    clear e
    go_enter Try.func8, Try.ntmps8
    go_wp2_with (first
      | (go_at_call 24; (with_reducible refine (hF.out _ (by (repeat (first | (with_reducible exact Upd.refl _ _) | (with_reducible assumption) | (with_reducible apply Upd.drew) | (with_reducible apply Upd.alloc) | (refine Upd0.tr ?_ (by with_reducible assumption)) | (refine Upd.setCell ?_ (fun h => absurd h (by first | exact Nat.lt_irrefl _ | (simp only []; omega))) _))); done)).use ?_); rintro v w1 ⟨rfl, hu1⟩)
      | (go_at_call 16; (with_reducible refine (blive_w _).use ?_); rintro v w2 ⟨rfl, hu2⟩)
      | (with_reducible refine wp_serial (by kernel_rfl) (by kernel_rfl) (by (repeat (first | (with_reducible apply NoBad.then) | (with_reducible apply NoBad.inBlock) | (with_reducible apply NoBad.jump) | (with_reducible exact NoBad.rets))); done) ?_) | fail)
    all_goals go_returns
    all_goals exact ⟨rfl, (by (repeat (first | (with_reducible exact Upd.refl _ _) | (with_reducible assumption) | (with_reducible apply Upd.drew) | (with_reducible apply Upd.alloc) | (refine Upd0.tr ?_ (by with_reducible assumption)) | (refine Upd.setCell ?_ (fun h => absurd h (by first | exact Nat.lt_irrefl _ | (simp only []; omega))) _))); done)⟩
end Go.Proofs.Ytijmbpokglohbaa
