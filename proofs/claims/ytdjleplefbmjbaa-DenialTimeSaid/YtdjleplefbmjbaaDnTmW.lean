/-
  DenialTime: the walk.
-/
import Derived.Test.YtdjleplefbmjbaaDnL
import Derived.Test.YtdjleplefbmjbaaDnT
namespace Go.Proofs.Ytdjleplefbmjbaa
open Go.RowKit Go.Shelf
set_option linter.unusedSimpArgs false
set_option linter.unusedVariables false
set_option maxRecDepth 100000 in
set_option maxHeartbeats 2000000 in
theorem dtime_bad (ttl mi most later : Int) (hb : ¬ (0 ≤ ttl ∧ ttl ≤ 100000 ∧ 0 ≤ mi ∧ mi ≤ 100000 ∧ 0 ≤ later ∧ later ≤ 200000)) (w : World) : Calls Try.prog 14 #[.agg #[.int .i64 ttl, .int .i64 mi, .int .i64 most, .int .i64 later]] w (Rets fun r w' => r = .bool true ∧ Upd0 w w') := by
  by_cases a0 : ttl < 0
  · clear hb
    go_enter Try.func14, Try.ntmps14
    go_wp2_with (first
      | (go_at_call 35; (with_reducible refine (dlive_w _).use ?_); rintro v w2 ⟨rfl, hu2⟩)
      | (with_reducible refine wp_serial (by kernel_rfl) (by kernel_rfl) (by (repeat (first | (with_reducible apply NoBad.then) | (with_reducible apply NoBad.inBlock) | (with_reducible exact NoBad.rets))); done) ?_) | fail)
    all_goals go_returns
    all_goals exact ⟨rfl, (by (repeat (first | (with_reducible exact Upd.refl _ _) | (with_reducible assumption) | (with_reducible apply Upd.drew) | (with_reducible apply Upd.alloc) | (refine Upd0.tr ?_ (by with_reducible assumption)) | (refine Upd.setCell ?_ (fun h => absurd h (by first | exact Nat.lt_irrefl _ | (simp only []; omega))) _))); done)⟩
  by_cases a1 : 100000 < ttl
  · clear hb
    go_enter Try.func14, Try.ntmps14
    go_wp2_with (first
      | (go_at_call 35; (with_reducible refine (dlive_w _).use ?_); rintro v w2 ⟨rfl, hu2⟩)
      | (with_reducible refine wp_serial (by kernel_rfl) (by kernel_rfl) (by (repeat (first | (with_reducible apply NoBad.then) | (with_reducible apply NoBad.inBlock) | (with_reducible exact NoBad.rets))); done) ?_) | fail)
    all_goals go_returns
    all_goals exact ⟨rfl, (by (repeat (first | (with_reducible exact Upd.refl _ _) | (with_reducible assumption) | (with_reducible apply Upd.drew) | (with_reducible apply Upd.alloc) | (refine Upd0.tr ?_ (by with_reducible assumption)) | (refine Upd.setCell ?_ (fun h => absurd h (by first | exact Nat.lt_irrefl _ | (simp only []; omega))) _))); done)⟩
  by_cases a2 : mi < 0
  · clear hb
    go_enter Try.func14, Try.ntmps14
    go_wp2_with (first
      | (go_at_call 35; (with_reducible refine (dlive_w _).use ?_); rintro v w2 ⟨rfl, hu2⟩)
      | (with_reducible refine wp_serial (by kernel_rfl) (by kernel_rfl) (by (repeat (first | (with_reducible apply NoBad.then) | (with_reducible apply NoBad.inBlock) | (with_reducible exact NoBad.rets))); done) ?_) | fail)
    all_goals go_returns
    all_goals exact ⟨rfl, (by (repeat (first | (with_reducible exact Upd.refl _ _) | (with_reducible assumption) | (with_reducible apply Upd.drew) | (with_reducible apply Upd.alloc) | (refine Upd0.tr ?_ (by with_reducible assumption)) | (refine Upd.setCell ?_ (fun h => absurd h (by first | exact Nat.lt_irrefl _ | (simp only []; omega))) _))); done)⟩
  by_cases a3 : 100000 < mi
  · clear hb
    go_enter Try.func14, Try.ntmps14
    go_wp2_with (first
      | (go_at_call 35; (with_reducible refine (dlive_w _).use ?_); rintro v w2 ⟨rfl, hu2⟩)
      | (with_reducible refine wp_serial (by kernel_rfl) (by kernel_rfl) (by (repeat (first | (with_reducible apply NoBad.then) | (with_reducible apply NoBad.inBlock) | (with_reducible exact NoBad.rets))); done) ?_) | fail)
    all_goals go_returns
    all_goals exact ⟨rfl, (by (repeat (first | (with_reducible exact Upd.refl _ _) | (with_reducible assumption) | (with_reducible apply Upd.drew) | (with_reducible apply Upd.alloc) | (refine Upd0.tr ?_ (by with_reducible assumption)) | (refine Upd.setCell ?_ (fun h => absurd h (by first | exact Nat.lt_irrefl _ | (simp only []; omega))) _))); done)⟩
  by_cases a4 : later < 0
  · clear hb
    go_enter Try.func14, Try.ntmps14
    go_wp2_with (first
      | (go_at_call 35; (with_reducible refine (dlive_w _).use ?_); rintro v w2 ⟨rfl, hu2⟩)
      | (with_reducible refine wp_serial (by kernel_rfl) (by kernel_rfl) (by (repeat (first | (with_reducible apply NoBad.then) | (with_reducible apply NoBad.inBlock) | (with_reducible exact NoBad.rets))); done) ?_) | fail)
    all_goals go_returns
    all_goals exact ⟨rfl, (by (repeat (first | (with_reducible exact Upd.refl _ _) | (with_reducible assumption) | (with_reducible apply Upd.drew) | (with_reducible apply Upd.alloc) | (refine Upd0.tr ?_ (by with_reducible assumption)) | (refine Upd.setCell ?_ (fun h => absurd h (by first | exact Nat.lt_irrefl _ | (simp only []; omega))) _))); done)⟩
  by_cases a5 : 200000 < later
  · clear hb
    go_enter Try.func14, Try.ntmps14
    go_wp2_with (first
      | (go_at_call 35; (with_reducible refine (dlive_w _).use ?_); rintro v w2 ⟨rfl, hu2⟩)
      | (with_reducible refine wp_serial (by kernel_rfl) (by kernel_rfl) (by (repeat (first | (with_reducible apply NoBad.then) | (with_reducible apply NoBad.inBlock) | (with_reducible exact NoBad.rets))); done) ?_) | fail)
    all_goals go_returns
    all_goals exact ⟨rfl, (by (repeat (first | (with_reducible exact Upd.refl _ _) | (with_reducible assumption) | (with_reducible apply Upd.drew) | (with_reducible apply Upd.alloc) | (refine Upd0.tr ?_ (by with_reducible assumption)) | (refine Upd.setCell ?_ (fun h => absurd h (by first | exact Nat.lt_irrefl _ | (simp only []; omega))) _))); done)⟩
  · exact absurd ⟨by omega, by omega, by omega, by omega, by omega, by omega⟩ hb
theorem tm_soa {mi : Int} (h0 : 0 ≤ mi) (h1 : mi ≤ 100000) (w : World) : Calls Try.prog 42 #[.agg #[.string ⟨#[]⟩, .string ⟨#[]⟩, .int .i64 0, .int .i64 0, .int .i64 0, .int .i64 0, .int .i64 mi]] w (Rets fun r w' => r = .tuple #[.string ⟨(tmS mi).bytes.toArray⟩, .int .i64 0] ∧ Upd0 w w') := by
  refine (soa_w (tmS mi) (by simp [tmS]) (by simp [tmS]) w).mono ?_
  intro e w' he
  cases e <;> first | exact he.elim | skip
  exact ⟨by rw [← tm_code h0 h1]; exact he.1, he.2⟩
set_option maxRecDepth 100000 in
set_option maxHeartbeats 2000000 in
theorem dtime_no (ttl mi most later : Int) (hb : 0 ≤ ttl ∧ ttl ≤ 100000 ∧ 0 ≤ mi ∧ mi ≤ 100000 ∧ 0 ≤ later ∧ later ≤ 200000) (hm : ((decide (1 ≤ (3 : Int)) && decide ((3 : Int) ≤ 200)) && (decide (1 ≤ most) && decide (most ≤ 2147483647))) = false) (w : World) : Calls Try.prog 14 #[.agg #[.int .i64 ttl, .int .i64 mi, .int .i64 most, .int .i64 later]] w (Rets fun r w' => r = .bool true ∧ Upd0 w w') := by
  obtain ⟨a0, a1, a2, a3, a4, a5⟩ := hb
  have hmh := Lib.hid hm
  clear hm
  go_enter Try.func14, Try.ntmps14
  go_wp2_with (first
    | (go_at_call 42; (with_reducible refine (tm_soa a2 a3 _).use ?_); rintro v w1 ⟨rfl, hu1⟩)
    | (go_at_call 36; (with_reducible refine (dnew_no 3 most hmh.out _).use ?_); rintro v w2 ⟨rfl, hu2⟩)
    | (go_at_call 35; (with_reducible refine (dlive_w _).use ?_); rintro v w3 ⟨rfl, hu3⟩)
    | (with_reducible refine wp_serial (by kernel_rfl) (by kernel_rfl) (by (repeat (first | (with_reducible apply NoBad.then) | (with_reducible apply NoBad.inBlock) | (with_reducible exact NoBad.rets))); done) ?_) | fail)
  all_goals go_returns
  all_goals exact ⟨rfl, (by (repeat (first | (with_reducible exact Upd.refl _ _) | (with_reducible assumption) | (with_reducible apply Upd.drew) | (with_reducible apply Upd.alloc) | (refine Upd0.tr ?_ (by with_reducible assumption)) | (refine Upd.setCell ?_ (fun h => absurd h (by first | exact Nat.lt_irrefl _ | (simp only []; omega))) _))); done)⟩
def tmE (ttl mi most : Int) : Ent := newE most [1, 120] 1 1 ⟨[], 6, ttl, (tmS mi).bytes⟩ 0
def tmL (ttl mi most : Int) : List Ent := if min ttl mi = 0 then [] else [tmE ttl mi most]
theorem tm_put {ttl mi most : Int} (a0 : 0 ≤ ttl) (a1 : ttl ≤ 100000) (a2 : 0 ≤ mi) (a3 : mi ≤ 100000) : put 3 most [] [1, 120] 1 1 ⟨[], 6, ttl, (tmS mi).bytes⟩ 0 = (0, tmL ttl mi most) := by
  rw [put_nil 3 most (by decide), tm_time a0 a1 a2 a3, show putOk [1, 120] 1 1 0 = true by decide +kernel, tm_n a0 a1 a2 a3, show undB [1, 120] [] = true by decide +kernel]
  rfl
theorem tm_get {ttl mi most later : Int} (a0 : 0 ≤ ttl) (a1 : ttl ≤ 100000) (a2 : 0 ≤ mi) (a3 : mi ≤ 100000) (a4 : 0 ≤ later) (a5 : later ≤ 200000) (m1 : 1 ≤ most) (m2 : most ≤ 2147483647) :
    getOut (tmL ttl mi most) [1, 120] 1 later = if later < min (min ttl mi) most then getV 1 [] 6 (min (min ttl mi) most - later) (tmS mi).bytes true else getV 0 [] 0 0 [] false := by
  have hT : timeOk later = true := by simp [timeOk]; omega
  rw [getOut, if_pos hT, tmL]
  have hn := tm_n (ttl := ttl) a0 a1 a2 a3
  have hh : hitE (fold [1, 120]) 1 later (tmE ttl mi most) = decide (later < min (min ttl mi) most) := by
    simp [hitE, tmE, newE, pkOf, hn]
  by_cases hz : min ttl mi = 0
  · rw [if_pos hz, getF_nil, if_neg (by omega)]; rfl
  · rw [if_neg hz, getF_one, hh]
    by_cases hl : later < min (min ttl mi) most
    · rw [decide_eq_true hl, if_pos rfl, if_pos hl]
      show getV 1 [] 6 (wrap64 (0 + min (timeN ⟨[], 6, ttl, (tmS mi).bytes⟩) most - later)) (tmS mi).bytes true = _
      rw [hn, show wrap64 (0 + min (min ttl mi) most - later) = min (min ttl mi) most - later by unfold wrap64; omega]
    · rw [decide_eq_false hl, if_neg hl]; rfl
end Go.Proofs.Ytdjleplefbmjbaa
