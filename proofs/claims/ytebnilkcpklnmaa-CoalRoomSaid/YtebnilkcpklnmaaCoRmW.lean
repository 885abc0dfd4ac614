/-
  The walk of CoalRoom: as many tasks as room, and as many clients for each as may be.
-/
import Derived.Test.YtebnilkcpklnmaaCoL
import Derived.Test.YtebnilkcpklnmaaCoRmP
namespace Go.Proofs.Ytebnilkcpklnmaa
open Go.RowKit Go.Maps
set_option linter.unusedSimpArgs false
set_option linter.unusedVariables false
set_option maxRecDepth 100000 in
set_option maxHeartbeats 4000000 in
theorem coalRoom_walk (rm mo : Int) (w : World) : Calls Try.prog 7 #[.int .i64 rm, .int .i64 mo] w (Rets fun r w' => r = .bool true ∧ Upd0 w w') := by
  by_cases hok : 1 ≤ rm ∧ rm ≤ 30 ∧ 1 ≤ mo ∧ mo ≤ 30
  case neg =>
    have hbad : rm < 1 ∨ (1 ≤ rm ∧ 30 < rm) ∨ (1 ≤ rm ∧ rm ≤ 30 ∧ mo < 1) ∨ (1 ≤ rm ∧ rm ≤ 30 ∧ 1 ≤ mo ∧ 30 < mo) := by omega
    clear hok
    rcases hbad with hb | ⟨hb, hb1⟩ | ⟨hb, hb1, hb2⟩ | ⟨hb, hb1, hb2, hb3⟩
    all_goals
      go_enter Try.func7, Try.ntmps7
      go_wp2_with (first
        | (go_at_call 15; (with_reducible refine (colive_w _).use ?_); rintro v w2 ⟨rfl, hu2⟩)
        | (with_reducible refine wp_serial (by kernel_rfl) (by kernel_rfl) (by (repeat (first | (with_reducible apply NoBad.then) | (with_reducible apply NoBad.inBlock) | (with_reducible exact NoBad.rets))); done) ?_) | fail)
      all_goals go_returns
      all_goals exact ⟨rfl, (by (repeat (first | (with_reducible exact Upd.refl _ _) | (with_reducible assumption) | (with_reducible apply Upd.drew) | (with_reducible apply Upd.alloc) | (refine Upd0.tr ?_ (by with_reducible assumption)) | (refine Upd.setCell ?_ (fun h => absurd h (by first | exact Nat.lt_irrefl _ | (simp only []; omega))) _))); done)⟩
  obtain ⟨r1, r2, m1, m2⟩ := hok
  obtain ⟨room, rfl⟩ := Int.eq_ofNat_of_zero_le (show 0 ≤ rm by omega)
  obtain ⟨most, rfl⟩ := Int.eq_ofNat_of_zero_le (show 0 ≤ mo by omega)
  have hra : roomB room = true := by simp [roomB]; omega
  have hma : roomB most = true := by simp [roomB]; omega
  have hdn := Lib.hid (@done_rows room most (by omega))
  have Asp : ∀ (B t i k : Nat) (w1 : World), i < room → k < most → Co B w1 t (rst room most i k) → Calls Try.prog 17 #[.pointer (some ⟨t, 0, none⟩), .agg #[.string ⟨#[]⟩, .int .i64 (1 + (i : Int))], .agg #[.int .i64 0, .int .i64 k, .string ⟨#[]⟩]] w1 (Rets fun r w' => r = .tuple #[.int .i64 ((i : Int) + 1), .bool ((k : Int) == 0), .int .i64 0] ∧ UpdP B w1 w' ∧ Co B w' t (rst room most i (k + 1))) := fun B t i k w1 hi hk h => by
    have hla : (rst room most i k).last ≤ 1000000 := by unfold rst; split <;> simp <;> omega
    have := ask_w t (rst room most i k) [] ((i : Int) + 1) ⟨0, k, []⟩ (by simp) (by simp) w1 h hla
    rw [ask_rst hi hk] at this
    have e : (1 + (i : Int)) = i + 1 := Int.add_comm _ _
    have e2 : ((k : Int) == 0) = decide (k = 0) := by
      by_cases h0 : k = 0
      · subst h0; rfl
      · rw [decide_eq_false h0, beq_eq_false_iff_ne]; omega
    rw [e, e2]
    exact this
  have Af1 : ∀ (B t : Nat) (w1 : World), Co B w1 t ⟨room, most, room, rows most room⟩ → Calls Try.prog 17 #[.pointer (some ⟨t, 0, none⟩), .agg #[.string ⟨#[]⟩, .int .i64 1], .agg #[.int .i64 0, .int .i64 0, .string ⟨#[]⟩]] w1 (Rets fun r w' => r = .tuple #[.int .i64 0, .bool false, .int .i64 4] ∧ UpdP B w1 w' ∧ Co B w' t ⟨room, most, room, rows most room⟩) := fun B t w1 h => by
    have := ask_w t ⟨room, most, room, rows most room⟩ [] 1 ⟨0, 0, []⟩ (by simp) (by simp) w1 h (by simp; omega)
    rw [ask_full1 (by omega)] at this
    exact this
  have Af2 : ∀ (B t : Nat) (w1 : World), Co B w1 t ⟨room, most, room, rows most room⟩ → Calls Try.prog 17 #[.pointer (some ⟨t, 0, none⟩), .agg #[.string ⟨#[]⟩, .int .i64 (1 + (room : Int))], .agg #[.int .i64 0, .int .i64 0, .string ⟨#[]⟩]] w1 (Rets fun r w' => r = .tuple #[.int .i64 0, .bool false, .int .i64 4] ∧ UpdP B w1 w' ∧ Co B w' t ⟨room, most, room, rows most room⟩) := fun B t w1 h => by
    have := ask_w t ⟨room, most, room, rows most room⟩ [] ((room : Int) + 1) ⟨0, 0, []⟩ (by simp) (by simp) w1 h (by simp; omega)
    rw [ask_full2] at this
    rw [show (1 + (room : Int)) = room + 1 from Int.add_comm _ _]
    exact this
  have Ad : ∀ (B t : Nat) (w1 : World), Co B w1 t ⟨room, most, room, rows most room⟩ → Calls Try.prog 20 #[.pointer (some ⟨t, 0, none⟩), .int .i64 1] w1 (Rets fun r w' => ∃ ao cap, r = .tuple #[.slice ao most cap, .bool true] ∧ UpdP B w1 w' ∧ Co B w' t ⟨room, most, room, rowsD most room⟩) := fun B t w1 h => by
    refine (done_w t ⟨room, most, room, rows most room⟩ 1 (by decide) w1 h).use ?_
    rintro v w' ⟨v1, rfl, hr, hu, hc⟩
    rw [hdn.out.1, rowC_len] at hr
    rw [hdn.out.2.2.1] at hc
    obtain ⟨ao, cap, rfl⟩ := ownsRow_slice hr
    exact ⟨ao, cap, by rw [hdn.out.2.1], hu, hc⟩
  have Al : ∀ (B t : Nat) (w1 : World), Co B w1 t ⟨room, most, room, rowsD most room⟩ → Calls Try.prog 17 #[.pointer (some ⟨t, 0, none⟩), .agg #[.string ⟨#[]⟩, .int .i64 (1 + (room : Int))], .agg #[.int .i64 0, .int .i64 0, .string ⟨#[]⟩]] w1 (Rets fun r w' => r = .tuple #[.int .i64 ((room : Int) + 1), .bool true, .int .i64 0] ∧ UpdP B w1 w') := fun B t w1 h => by
    have := ask_w t ⟨room, most, room, rowsD most room⟩ [] ((room : Int) + 1) ⟨0, 0, []⟩ (by simp) (by simp) w1 h (by simp; omega)
    rw [ask_last1 (by omega)] at this
    rw [show (1 + (room : Int)) = room + 1 from Int.add_comm _ _]
    exact this.use fun v w' hh => ⟨hh.1, hh.2.1⟩
  have Asp := Lib.hid Asp
  have Af1 := Lib.hid Af1
  have Af2 := Lib.hid Af2
  have Ad := Lib.hid Ad
  have Al := Lib.hid Al
  have tk1 : True := trivial
  have tk2 : True := trivial
  go_enter Try.func7, Try.ntmps7
  go_wp2_with (first
    | (go_at_call 14; (with_reducible refine (new_w (B := w.heap.size) room most hra hma _ (Nat.le_refl _)).use ?_); rintro v w1 ⟨t, rfl, htl, hu1, hc1⟩; have k1 := Lib.hid hc1; clear hc1)
    | (with_reducible refine wp_serial (by kernel_rfl) (by kernel_rfl) (by (repeat (first | (with_reducible apply NoBad.then) | (with_reducible apply NoBad.inBlock) | (with_reducible exact NoBad.rets))); done) ?_) | fail)
  go_loopw [7, 8, 9, 10, 11] (fun ii _ _ _ _ wr => ∃ i : Nat, i ≤ room ∧ ii = .int .i64 i ∧ Upd0 w wr ∧ Hid (Co w.heap.size wr t (rst room most i 0))) (fun ii _ _ _ _ _ => room - (intOf ii).toNat)
  case atStart => exact ⟨0, Nat.zero_le _, rfl, hu1, k1⟩
  case round =>
    obtain ⟨i, hi, rfl, hu, hc⟩ := hrel
    by_cases hlt : i < room
    · go_wp2_with (first | (with_reducible refine wp_serial (by kernel_rfl) (by kernel_rfl) (by (repeat (first | (with_reducible apply NoBad.then) | (with_reducible apply NoBad.inBlock) | (with_reducible exact NoBad.rets))); done) ?_) | fail)
      go_loopw [8, 9, 10, 11] (fun kk _ _ _ wr => ∃ k : Nat, k ≤ most ∧ kk = .int .i64 k ∧ Upd0 w wr ∧ Hid (Co w.heap.size wr t (rst room most i k))) (fun kk _ _ _ _ => most - (intOf kk).toNat)
      case atStart => exact ⟨0, Nat.zero_le _, rfl, hu, hc⟩
      case round =>
        obtain ⟨k, hk, rfl, hu, hc⟩ := hrel
        by_cases hlk : k < most
        · go_wp2_with (first
            | (go_at_call 17; (with_reducible refine (Asp.out _ t i k _ hlt hlk hc.out).use ?_); rintro v w2 ⟨rfl, hu2, hc2⟩; have k2 := Lib.hid hc2; clear hc2)
            | (with_reducible refine wp_serial (by kernel_rfl) (by kernel_rfl) (by (repeat (first | (with_reducible apply NoBad.then) | (with_reducible apply NoBad.inBlock) | (with_reducible exact NoBad.rets))); done) ?_) | fail)
          go_roundw
          case rel => exact ⟨k + 1, by omega, by go_num, (by (repeat (first | (with_reducible exact Upd.refl _ _) | (with_reducible assumption) | (with_reducible apply Upd.drew) | (with_reducible apply Upd.alloc) | (refine Upd0.tr ?_ (by with_reducible assumption)) | (refine UpdP.fin ?_ (by with_reducible assumption)) | (refine UpdR.fin ?_ (by with_reducible assumption)) | (refine Upd.setCell ?_ (fun h => absurd h (by first | exact Nat.lt_irrefl _ | (simp only []; omega))) _))); done), k2⟩
          case measure => simp [intOf]; omega
        · have hke : k = most := by omega
          subst hke
          have hc' := Lib.hid hc.out
          rw [rst_next room k i (by omega)] at hc'
          go_wp2_with (first | (with_reducible refine wp_serial (by kernel_rfl) (by kernel_rfl) (by (repeat (first | (with_reducible apply NoBad.then) | (with_reducible apply NoBad.inBlock) | (with_reducible exact NoBad.rets))); done) ?_) | fail)
          go_roundw
          case rel => exact ⟨i + 1, by omega, by go_num, hu, hc'⟩
          case measure => simp [intOf]; omega
    · have hie : i = room := by omega
      subst hie
      have hc' := Lib.hid (show Co w.heap.size wr t ⟨i, most, i, rows most i⟩ from hc.out)
      go_wp2_with (first
        | (go_at_call 17; have _t := tk1; (with_reducible refine (Af1.out _ t _ hc'.out).use ?_); rintro v w2 ⟨rfl, hu2, hc2⟩; have k2 := Lib.hid hc2; clear hc2 tk1 _t)
        | (go_at_call 17; have _t := tk2; (with_reducible refine (Af2.out _ t _ k2.out).use ?_); rintro v w3 ⟨rfl, hu3, hc3⟩; have k3 := Lib.hid hc3; clear hc3 tk2 _t)
        | (go_at_call 20; (with_reducible refine (Ad.out _ t _ k3.out).use ?_); rintro v w4 ⟨ao, cap, rfl, hu4, hc4⟩; have k4 := Lib.hid hc4; clear hc4)
        | (go_at_call 17; (with_reducible refine (Al.out _ t _ k4.out).use ?_); rintro v w5 ⟨rfl, hu5⟩)
        | (go_at_call 15; (with_reducible refine (colive_w _).use ?_); rintro v w6 ⟨rfl, hu6⟩)
        | (with_reducible refine wp_serial (by kernel_rfl) (by kernel_rfl) (by (repeat (first | (with_reducible apply NoBad.then) | (with_reducible apply NoBad.inBlock) | (with_reducible exact NoBad.rets))); done) ?_) | fail)
      all_goals go_returns
      all_goals exact ⟨rfl, (by (repeat (first | (with_reducible exact Upd.refl _ _) | (with_reducible assumption) | (with_reducible apply Upd.drew) | (with_reducible apply Upd.alloc) | (refine Upd0.tr ?_ (by with_reducible assumption)) | (refine UpdP.fin ?_ (by with_reducible assumption)) | (refine UpdR.fin ?_ (by with_reducible assumption)) | (refine Upd.setCell ?_ (fun h => absurd h (by first | exact Nat.lt_irrefl _ | (simp only []; omega))) _))); done)⟩
end Go.Proofs.Ytebnilkcpklnmaa
