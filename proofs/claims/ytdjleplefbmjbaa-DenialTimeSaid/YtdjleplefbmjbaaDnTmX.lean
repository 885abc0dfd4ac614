/-
  DenialTime: the walk where all is in range.
-/
import Derived.Test.YtdjleplefbmjbaaDnTmW
namespace Go.Proofs.Ytdjleplefbmjbaa
open Go.RowKit Go.Shelf
set_option linter.unusedSimpArgs false
set_option linter.unusedVariables false
variable {B : Nat}
theorem tmP {ttl mi most : Int} (a0 : 0 ≤ ttl) (a1 : ttl ≤ 100000) (a2 : 0 ≤ mi) (a3 : mi ≤ 100000) (t : Nat) (w : World) (h : Sto B w t 3 most []) : Calls Try.prog 38 #[.pointer (some ⟨t, 0, none⟩), .agg #[.string ⟨#[1, 120]⟩, .int .i64 1], .int .i64 1, .agg #[.string ⟨#[]⟩, .int .i64 6, .int .i64 ttl, .string ⟨(tmS mi).bytes.toArray⟩], .int .i64 0] w (Rets fun r w' => r = .int .i64 0 ∧ UpdS B w w' ∧ Sto B w' t 3 most (tmL ttl mi most)) := by
  refine (dput_w t 3 most [] [1, 120] 1 1 [] 6 ttl (tmS mi).bytes 0 (by decide) (by decide) (by have := tm_len a2 a3; omega) w h).mono ?_
  intro e w' he
  cases e <;> first | exact he.elim | skip
  obtain ⟨h1, h2, h3⟩ := he
  rw [tm_put a0 a1 a2 a3] at h1 h3
  exact ⟨h1, h2, h3⟩
theorem tmG {ttl mi most later : Int} (a0 : 0 ≤ ttl) (a1 : ttl ≤ 100000) (a2 : 0 ≤ mi) (a3 : mi ≤ 100000) (a4 : 0 ≤ later) (a5 : later ≤ 200000) (m1 : 1 ≤ most) (m2 : most ≤ 2147483647) (t : Nat) (w : World) (h : Sto B w t 3 most (tmL ttl mi most)) : Calls Try.prog 37 #[.pointer (some ⟨t, 0, none⟩), .agg #[.string ⟨#[1, 120]⟩, .int .i64 1], .int .i64 later] w (Rets fun r w' => r = (if later < min (min ttl mi) most then getV 1 [] 6 (min (min ttl mi) most - later) (tmS mi).bytes true else getV 0 [] 0 0 [] false) ∧ Upd0 w w') := by
  refine (dget_w h [1, 120] 1 later (by decide)).mono ?_
  intro e w' he
  cases e <;> first | exact he.elim | skip
  exact ⟨he.1.trans (tm_get a0 a1 a2 a3 a4 a5 m1 m2), he.2⟩
theorem cell2q {w : World} {b : Nat} {a0 a1 : Value} {t : TypeId} (h : w.heap[b]? = some (.cells #[a0, a1] t (0, 0))) : w.cell? ⟨b, 0, none⟩ = some a0 ∧ w.cell? ⟨b, 1, none⟩ = some a1 := ⟨by rw [blk_cell h]; rfl, by rw [blk_cell h]; rfl⟩
set_option maxRecDepth 100000 in
set_option maxHeartbeats 2000000 in
theorem dtime_yes1 (ttl mi most later : Int) (hb : 0 ≤ ttl ∧ ttl ≤ 100000 ∧ 0 ≤ mi ∧ mi ≤ 100000 ∧ 0 ≤ later ∧ later ≤ 200000) (m1 : 1 ≤ most) (m2 : most ≤ 2147483647) (hl : later < min (min ttl mi) most) (w : World) : Calls Try.prog 14 #[.agg #[.int .i64 ttl, .int .i64 mi, .int .i64 most, .int .i64 later]] w (Rets fun r w' => r = .bool true ∧ Upd0 w w') := by
  obtain ⟨a0, a1, a2, a3, a4, a5⟩ := hb
  have n0 : ¬ ttl < 0 := by omega
  have n1 : ¬ 100000 < ttl := by omega
  have n2 : ¬ mi < 0 := by omega
  have n3 : ¬ 100000 < mi := by omega
  have n4 : ¬ later < 0 := by omega
  have n5 : ¬ 200000 < later := by omega
  have hwr : wrap64 (min (min ttl mi) most - later) = min (min ttl mi) most - later := by unfold wrap64; omega
  have hG : ∀ (t : Nat) (w1 : World), Sto w.heap.size w1 t 3 most (tmL ttl mi most) → Calls Try.prog 37 #[.pointer (some ⟨t, 0, none⟩), .agg #[.string ⟨#[1, 120]⟩, .int .i64 1], .int .i64 later] w1 (Rets fun r w' => r = getV 1 [] 6 (min (min ttl mi) most - later) (tmS mi).bytes true ∧ Upd0 w1 w') := fun t w1 h => by
    have := tmG a0 a1 a2 a3 a4 a5 m1 m2 t w1 h
    rw [if_pos hl] at this
    exact this
  have hGh := Lib.hid hG
  clear hG
  go_enter Try.func14, Try.ntmps14
  go_wp2_with (first
    | (go_at_call 42; (with_reducible refine (tm_soa a2 a3 _).use ?_); rintro v w1 ⟨rfl, hu1⟩)
    | (go_at_call 36; (with_reducible refine (dnew_w (B := w.heap.size) 3 most (by decide) (by decide) m1 m2 _ (by have := hu1.size; simp at this; omega)).use ?_); rintro v w2 ⟨t, rfl, hu2, hc2⟩; have k2 := Lib.hid hc2; clear hc2)
    | (go_at_call 38; (refine (tmP a0 a1 a2 a3 t _ (k2.out.to0 (by (repeat (first | (with_reducible exact Upd.refl _ _) | (with_reducible assumption) | (with_reducible apply Upd.drew) | (with_reducible apply Upd.alloc) | (refine Upd0.tr ?_ (by with_reducible assumption)) | (refine Upd.setCell ?_ (fun h => absurd h (by first | exact Nat.lt_irrefl _ | (simp only []; omega))) _))); done))).use ?_); rintro v w3 ⟨rfl, hu3, hc3⟩; have k3 := Lib.hid hc3; clear hc3; have b3 := Lib.hid (show w3.heap[w2.heap.size]? = some (.cells #[.string ⟨#[1, 120]⟩, .int .i64 1] 46 (0, 0)) from hu3.other (by first | exact alloc_last _ _ _ rfl | exact blk_alloc (alloc_last _ _ _ rfl) | exact blk_alloc (blk_alloc (alloc_last _ _ _ rfl))) rfl); obtain ⟨q30, q31⟩ := cell2q b3.out; have hl3 := blk_lt b3.out; have ne3 : ¬ w2.heap.size = w3.heap.size := (by omega); have nf3 : ¬ w3.heap.size = w2.heap.size := (by omega))
    | (go_at_call 37; (refine (hGh.out t _ (k3.out.to0 (by (repeat (first | (with_reducible exact Upd.refl _ _) | (with_reducible assumption) | (with_reducible apply Upd.drew) | (with_reducible apply Upd.alloc) | (refine Upd0.tr ?_ (by with_reducible assumption)) | (refine Upd.setCell ?_ (fun h => absurd h (by first | exact Nat.lt_irrefl _ | (simp only []; omega))) _))); done))).use ?_); rintro v w4 ⟨rfl, hu4⟩; simp only [getV])
    | (go_at_call 35; (with_reducible refine (dlive_w _).use ?_); rintro v w5 ⟨rfl, hu5⟩)
    | (with_reducible refine wp_serial (by kernel_rfl) (by kernel_rfl) (by (repeat (first | (with_reducible apply NoBad.then) | (with_reducible apply NoBad.inBlock) | (with_reducible exact NoBad.rets))); done) ?_) | fail)
  all_goals go_returns
  all_goals exact ⟨by first | rfl | (show Value.bool _ = Value.bool true; congr 1; simp; omega), (by (repeat (first | (with_reducible exact Upd.refl _ _) | (with_reducible assumption) | (with_reducible apply Upd.drew) | (with_reducible apply Upd.alloc) | (refine Upd0.tr ?_ (by with_reducible assumption)) | (refine UpdP.fin ?_ (by with_reducible assumption)) | (refine UpdR.fin ?_ (by with_reducible assumption)) | (refine UpdS.fin ?_ (by with_reducible assumption)) | (refine Upd.setCell ?_ (fun h => absurd h (by first | exact Nat.lt_irrefl _ | (simp only []; omega))) _))); done)⟩
set_option maxRecDepth 100000 in
set_option maxHeartbeats 2000000 in
theorem dtime_yes0 (ttl mi most later : Int) (hb : 0 ≤ ttl ∧ ttl ≤ 100000 ∧ 0 ≤ mi ∧ mi ≤ 100000 ∧ 0 ≤ later ∧ later ≤ 200000) (m1 : 1 ≤ most) (m2 : most ≤ 2147483647) (hl : ¬ later < min (min ttl mi) most) (w : World) : Calls Try.prog 14 #[.agg #[.int .i64 ttl, .int .i64 mi, .int .i64 most, .int .i64 later]] w (Rets fun r w' => r = .bool true ∧ Upd0 w w') := by
  obtain ⟨a0, a1, a2, a3, a4, a5⟩ := hb
  have n0 : ¬ ttl < 0 := by omega
  have n1 : ¬ 100000 < ttl := by omega
  have n2 : ¬ mi < 0 := by omega
  have n3 : ¬ 100000 < mi := by omega
  have n4 : ¬ later < 0 := by omega
  have n5 : ¬ 200000 < later := by omega
  have hwr : wrap64 (min (min ttl mi) most - later) = min (min ttl mi) most - later := by unfold wrap64; omega
  have hG : ∀ (t : Nat) (w1 : World), Sto w.heap.size w1 t 3 most (tmL ttl mi most) → Calls Try.prog 37 #[.pointer (some ⟨t, 0, none⟩), .agg #[.string ⟨#[1, 120]⟩, .int .i64 1], .int .i64 later] w1 (Rets fun r w' => r = getV 0 [] 0 0 [] false ∧ Upd0 w1 w') := fun t w1 h => by
    have := tmG a0 a1 a2 a3 a4 a5 m1 m2 t w1 h
    rw [if_neg hl] at this
    exact this
  have hGh := Lib.hid hG
  clear hG
  go_enter Try.func14, Try.ntmps14
  go_wp2_with (first
    | (go_at_call 42; (with_reducible refine (tm_soa a2 a3 _).use ?_); rintro v w1 ⟨rfl, hu1⟩)
    | (go_at_call 36; (with_reducible refine (dnew_w (B := w.heap.size) 3 most (by decide) (by decide) m1 m2 _ (by have := hu1.size; simp at this; omega)).use ?_); rintro v w2 ⟨t, rfl, hu2, hc2⟩; have k2 := Lib.hid hc2; clear hc2)
    | (go_at_call 38; (refine (tmP a0 a1 a2 a3 t _ (k2.out.to0 (by (repeat (first | (with_reducible exact Upd.refl _ _) | (with_reducible assumption) | (with_reducible apply Upd.drew) | (with_reducible apply Upd.alloc) | (refine Upd0.tr ?_ (by with_reducible assumption)) | (refine Upd.setCell ?_ (fun h => absurd h (by first | exact Nat.lt_irrefl _ | (simp only []; omega))) _))); done))).use ?_); rintro v w3 ⟨rfl, hu3, hc3⟩; have k3 := Lib.hid hc3; clear hc3; have b3 := Lib.hid (show w3.heap[w2.heap.size]? = some (.cells #[.string ⟨#[1, 120]⟩, .int .i64 1] 46 (0, 0)) from hu3.other (by first | exact alloc_last _ _ _ rfl | exact blk_alloc (alloc_last _ _ _ rfl) | exact blk_alloc (blk_alloc (alloc_last _ _ _ rfl))) rfl); obtain ⟨q30, q31⟩ := cell2q b3.out; have hl3 := blk_lt b3.out; have ne3 : ¬ w2.heap.size = w3.heap.size := (by omega); have nf3 : ¬ w3.heap.size = w2.heap.size := (by omega))
    | (go_at_call 37; (refine (hGh.out t _ (k3.out.to0 (by (repeat (first | (with_reducible exact Upd.refl _ _) | (with_reducible assumption) | (with_reducible apply Upd.drew) | (with_reducible apply Upd.alloc) | (refine Upd0.tr ?_ (by with_reducible assumption)) | (refine Upd.setCell ?_ (fun h => absurd h (by first | exact Nat.lt_irrefl _ | (simp only []; omega))) _))); done))).use ?_); rintro v w4 ⟨rfl, hu4⟩; simp only [getV])
    | (go_at_call 35; (with_reducible refine (dlive_w _).use ?_); rintro v w5 ⟨rfl, hu5⟩)
    | (with_reducible refine wp_serial (by kernel_rfl) (by kernel_rfl) (by (repeat (first | (with_reducible apply NoBad.then) | (with_reducible apply NoBad.inBlock) | (with_reducible exact NoBad.rets))); done) ?_) | fail)
  all_goals go_returns
  all_goals exact ⟨by first | rfl | (show Value.bool _ = Value.bool true; congr 1; simp; omega), (by (repeat (first | (with_reducible exact Upd.refl _ _) | (with_reducible assumption) | (with_reducible apply Upd.drew) | (with_reducible apply Upd.alloc) | (refine Upd0.tr ?_ (by with_reducible assumption)) | (refine UpdP.fin ?_ (by with_reducible assumption)) | (refine UpdR.fin ?_ (by with_reducible assumption)) | (refine UpdS.fin ?_ (by with_reducible assumption)) | (refine Upd.setCell ?_ (fun h => absurd h (by first | exact Nat.lt_irrefl _ | (simp only []; omega))) _))); done)⟩
theorem denialTime_walk (ttl mi most later : Int) (w : World) : Calls Try.prog 14 #[.agg #[.int .i64 ttl, .int .i64 mi, .int .i64 most, .int .i64 later]] w (Rets fun r w' => r = .bool true ∧ Upd0 w w') := by
  by_cases hb : 0 ≤ ttl ∧ ttl ≤ 100000 ∧ 0 ≤ mi ∧ mi ≤ 100000 ∧ 0 ≤ later ∧ later ≤ 200000
  · cases hm : ((decide (1 ≤ (3 : Int)) && decide ((3 : Int) ≤ 200)) && (decide (1 ≤ most) && decide (most ≤ 2147483647))) with
    | false => exact dtime_no ttl mi most later hb hm w
    | true =>
      simp only [Bool.and_eq_true, decide_eq_true_eq] at hm
      by_cases hl : later < min (min ttl mi) most
      · exact dtime_yes1 ttl mi most later hb hm.2.1 hm.2.2 hl w
      · exact dtime_yes0 ttl mi most later hb hm.2.1 hm.2.2 hl w
  · exact dtime_bad ttl mi most later hb w
end Go.Proofs.Ytdjleplefbmjbaa
