/-
  A text with small letters: the program's, the document's.
-/
import Derived.Test.YtdjleplefbmjbaaFlP
import Derived.Test.YtdjleplefbmjbaaU8
namespace Go.Proofs.Ytdjleplefbmjbaa
open Go.RowKit
set_option linter.unusedSimpArgs false
set_option linter.unusedVariables false
set_option maxRecDepth 100000 in
theorem small_w (s : Bs) (hm : s.length ≤ 70000) (w : World) : Calls Try.prog 54 #[.string ⟨s.toArray⟩] w (Rets fun r w' => r = .string ⟨(smS s).toArray⟩ ∧ Upd0 w w') := by
  go_enter Try.func54, Try.ntmps54
  go_wp2_with (first
    | (refine wpList_toB rfl (.tmp 6) 9 74 rfl 5 Try.underlying9 Try.underlying74 Try.underlying5 s rfl (by unfold maxLen; omega) ?_; intro cap w1 hb1 hu1 hz1; have hb1h := Lib.hid hb1; clear hb1)
    | (with_reducible refine wp_serial (by kernel_rfl) (by kernel_rfl) (by (repeat (first | (with_reducible apply NoBad.then) | (with_reducible apply NoBad.inBlock) | (with_reducible exact NoBad.rets))); done) ?_) | fail)
  go_loopw [10] (fun i wr => ∃ k : Nat, k ≤ s.length ∧ i = .int .i64 k ∧ Upd0 w wr ∧ Hid (BR 5 w.heap.size wr (.slice (some ⟨w.heap.size, 0, none⟩) s.length cap) (smH s k))) (fun i _ => s.length - (intOf i).toNat)
  case atStart => exact ⟨0, Nat.zero_le _, rfl, hu1, Lib.hid (by rw [smH_zero]; exact hb1h.out)⟩
  case round =>
    obtain ⟨k, hk, rfl, hu, hb⟩ := hrel
    by_cases hlt : k < s.length
    · have hc := hb.out.cell (i := k) (by rw [smH_len]; exact hlt)
      have hf := hb.out.frz (i := k) (by rw [smH_len]; exact hlt)
      rw [smH_get s hlt] at hc
      cases hg : big s[k] with
      | true =>
        obtain ⟨g1, g2⟩ := big_iff.1 hg
        have hv := Lib.hid (show Value.int .u8 ((s[k].toNat : Int) - 65 + 97) = .int .u8 (sm1 s[k]).toNat by rw [sm1_big hg]; congr 1; omega)
        clear hg
        go_wp2_with (first | (with_reducible refine wp_serial (by kernel_rfl) (by kernel_rfl) (by (repeat (first | (with_reducible apply NoBad.then) | (with_reducible apply NoBad.inBlock) | (with_reducible exact NoBad.rets))); done) ?_) | fail)
        rw [hv.out]
        go_roundw
        case rel => exact ⟨k + 1, by omega, by go_num, (hu.setCell (fun h => absurd h (by simp)) _), Lib.hid (by have h2 := hb.out.setAt (i := k) (sm1 s[k]); rw [smH_step s hlt] at h2; exact h2)⟩
        case measure => simp [intOf]; omega
      | false =>
        have hg2 : ¬ (65 ≤ s[k].toNat ∧ s[k].toNat ≤ 90) := fun h => by rw [big_iff.2 h] at hg; cases hg
        have hgg : s[k].toNat < 65 ∨ (65 ≤ s[k].toNat ∧ 90 < s[k].toNat) := by omega
        have hgh := Lib.hid hg
        clear hg hg2
        rcases hgg with g1 | ⟨g1, g2⟩
        all_goals
          go_wp2_with (first | (with_reducible refine wp_serial (by kernel_rfl) (by kernel_rfl) (by (repeat (first | (with_reducible apply NoBad.then) | (with_reducible apply NoBad.inBlock) | (with_reducible exact NoBad.rets))); done) ?_) | fail)
          go_roundw
          case rel => exact ⟨k + 1, by omega, by go_num, hu, Lib.hid (by rw [← smH_keep s hlt hgh.out]; exact hb.out)⟩
          case measure => simp [intOf]; omega
    · go_wp2_with (first
        | (refine wpList_ofB rfl (.tmp 28) 74 9 rfl 5 Try.underlying74 Try.underlying5 Try.underlying9 rfl hb.out ?_)
        | (with_reducible refine wp_serial (by kernel_rfl) (by kernel_rfl) (by (repeat (first | (with_reducible apply NoBad.then) | (with_reducible apply NoBad.inBlock) | (with_reducible exact NoBad.rets))); done) ?_) | fail)
      go_returns
      exact ⟨by rw [smH_all s (by omega)]; rfl, hu⟩
set_option maxRecDepth 100000 in
theorem rsmall_w (s : Bs) (hm : s.length ≤ 70000) (w : World) : Calls Try.prog 55 #[.string ⟨s.toArray⟩] w (Rets fun r w' => r = .string ⟨(smS s).toArray⟩ ∧ Upd0 w w') := by
  go_enter Try.func55, Try.ntmps55
  go_wp2_with (first
    | (refine wpList_toB rfl (.tmp 5) 9 74 rfl 5 Try.underlying9 Try.underlying74 Try.underlying5 s rfl (by unfold maxLen; omega) ?_; intro cap w1 hb1 hu1 hz1; have hb1h := Lib.hid hb1; clear hb1)
    | (with_reducible refine wp_serial (by kernel_rfl) (by kernel_rfl) (by (repeat (first | (with_reducible apply NoBad.then) | (with_reducible apply NoBad.inBlock) | (with_reducible exact NoBad.rets))); done) ?_) | fail)
  go_loopw [4] (fun i wr => ∃ k : Nat, k ≤ s.length ∧ i = .int .i64 k ∧ Upd0 w wr ∧ Hid (BR 5 w.heap.size wr (.slice (some ⟨w.heap.size, 0, none⟩) s.length cap) (smH s k))) (fun i _ => s.length - (intOf i).toNat)
  case atStart => exact ⟨0, Nat.zero_le _, rfl, hu1, Lib.hid (by rw [smH_zero]; exact hb1h.out)⟩
  case round =>
    obtain ⟨k, hk, rfl, hu, hb⟩ := hrel
    by_cases hlt : k < s.length
    · have hc := hb.out.cell (i := k) (by rw [smH_len]; exact hlt)
      have hf := hb.out.frz (i := k) (by rw [smH_len]; exact hlt)
      rw [smH_get s hlt] at hc
      cases hg : big s[k] with
      | true =>
        obtain ⟨g1, g2⟩ := big_iff.1 hg
        have hv := Lib.hid (show Value.int .u8 ((s[k].toNat : Int) + 32) = .int .u8 (sm1 s[k]).toNat by rw [sm1_big hg]; congr 1)
        clear hg
        go_wp2_with (first | (with_reducible refine wp_serial (by kernel_rfl) (by kernel_rfl) (by (repeat (first | (with_reducible apply NoBad.then) | (with_reducible apply NoBad.inBlock) | (with_reducible exact NoBad.rets))); done) ?_) | fail)
        rw [hv.out]
        go_roundw
        case rel => exact ⟨k + 1, by omega, by go_num, (hu.setCell (fun h => absurd h (by simp)) _), Lib.hid (by have h2 := hb.out.setAt (i := k) (sm1 s[k]); rw [smH_step s hlt] at h2; exact h2)⟩
        case measure => simp [intOf]; omega
      | false =>
        have hg2 : ¬ (65 ≤ s[k].toNat ∧ s[k].toNat ≤ 90) := fun h => by rw [big_iff.2 h] at hg; cases hg
        have hgg : s[k].toNat < 65 ∨ (65 ≤ s[k].toNat ∧ 90 < s[k].toNat) := by omega
        have hgh := Lib.hid hg
        clear hg hg2
        rcases hgg with g1 | ⟨g1, g2⟩
        all_goals
          go_wp2_with (first | (with_reducible refine wp_serial (by kernel_rfl) (by kernel_rfl) (by (repeat (first | (with_reducible apply NoBad.then) | (with_reducible apply NoBad.inBlock) | (with_reducible exact NoBad.rets))); done) ?_) | fail)
          go_roundw
          case rel => exact ⟨k + 1, by omega, by go_num, hu, Lib.hid (by rw [← smH_keep s hlt hgh.out]; exact hb.out)⟩
          case measure => simp [intOf]; omega
    · go_wp2_with (first
        | (refine wpList_ofB rfl (.tmp 33) 74 9 rfl 5 Try.underlying74 Try.underlying5 Try.underlying9 rfl hb.out ?_)
        | (with_reducible refine wp_serial (by kernel_rfl) (by kernel_rfl) (by (repeat (first | (with_reducible apply NoBad.then) | (with_reducible apply NoBad.inBlock) | (with_reducible exact NoBad.rets))); done) ?_) | fail)
      go_returns
      exact ⟨by rw [smH_all s (by omega)]; rfl, hu⟩
end Go.Proofs.Ytdjleplefbmjbaa
