/-
  The program's cache: New, Len.
-/
import Derived.Test.YtijmbpokglohbaaCaA
namespace Go.Proofs.Ytijmbpokglohbaa
open Go.RowKit Go.Maps
set_option linter.unusedSimpArgs false
set_option linter.unusedVariables false
variable {B : Nat}
set_option maxRecDepth 100000 in
theorem cnew_ok (room most : Int) (h1 : 1 ≤ room) (h2 : room ≤ 200) (h3 : 1 ≤ most) (h4 : most ≤ 2147483647) (w : World) : Calls Try.prog 31 #[.int .i64 room, .int .i64 most] w (Rets fun r w' => ∃ t bm, r = .tuple #[.pointer (some ⟨t, 0, none⟩), .int .i64 0] ∧ w.heap.size ≤ t ∧ Upd0 w w' ∧ CaIs w.heap.size w' t bm room most 0 [] []) := by
  have hmm := @run_makeMap Try.prog
  have g1 := Lib.hid (show (decide ((1 : Int) ≤ room) && decide (room ≤ 200)) = true by rw [decide_eq_true h1, decide_eq_true h2]; rfl)
  have g2 := Lib.hid (show (decide ((1 : Int) ≤ most) && decide (most ≤ 2147483647)) = true by rw [decide_eq_true h3, decide_eq_true h4]; rfl)
  clear h1 h2 h3 h4
  go_enter Try.func31, Try.ntmps31
  go_wp2_with (first
    | (go_at_call 57; (with_reducible refine (within_w room 1 200 _).use ?_); rintro v w1 ⟨rfl, hu1⟩; rw [g1.out])
    | (go_at_call 57; (with_reducible refine (within_w most 1 2147483647 _).use ?_); rintro v w2 ⟨rfl, hu2⟩; rw [g2.out])
    | (with_reducible refine And.intro hu1.ext ?_)
    | (with_reducible refine And.intro hu2.ext ?_)
    | ((with_reducible refine wp_serial3_2 0 [] [0] 1 [2, 3, 4] 5 [6, 7] [_] _ [_, _, _] _ [_, _] (by kernel_rfl) (by decide +kernel) rfl rfl rfl rfl rfl ⟨Nat.zero_le _, fun s hs => absurd hs List.not_mem_nil⟩ (by repeat with_reducible (first | apply NoBad.then | apply NoBad.inBlock | apply NoBad.jump | exact NoBad.rets)) ?_); simp only [List.getElem_toArray, List.getElem_cons_succ, List.getElem_cons_zero])
    | (with_reducible refine wp_serial (by kernel_rfl) (by kernel_rfl) (by repeat with_reducible (first | apply NoBad.then | apply NoBad.inBlock | apply NoBad.jump | exact NoBad.rets)) ?_) | fail)
  all_goals go_returns
  all_goals exact ⟨w2.heap.size + 1, w2.heap.size, rfl, by have := hu1.size; have := hu2.size; simp at *; omega, (by repeat first | with_reducible (first | exact Upd.refl _ _ | assumption | apply Upd.drew | apply Upd.alloc) | refine Upd0.tr ?_ (by with_reducible assumption) | refine Upd.setCell ?_ (fun h => absurd h (by first | exact Nat.lt_irrefl _ | (simp only []; omega))) _), ⟨alloc_last _ _ _ (by simp), (ownsQ_new w2).to (Below.heap_alloc _ _ _ (by simp)), rfl, (fun m hm => nomatch hm), List.Pairwise.nil, ⟨by have := hu1.size; have := hu2.size; simp at *; omega, by have := hu1.size; have := hu2.size; simp at *; omega, fun m hm => nomatch hm⟩⟩⟩
set_option maxRecDepth 100000 in
theorem clen_w (t bm : Nat) (room most N : Int) (L : List CE) (M : List EM) (w : World) (h : CaIs B w t bm room most N L M) : Calls Try.prog 39 #[.pointer (some ⟨t, 0, none⟩)] w (Rets fun r w' => r = .int .i64 L.length ∧ Upd0 w w') := by
  obtain ⟨c0, c1, c2, c3⟩ := set4 h.blk
  have hn := Lib.hid (show ((M.map EM.ke).length : Int) = L.length by rw [← h.abs]; simp)
  have ho := Lib.hid h.own
  clear h
  go_enter Try.func39, Try.ntmps39
  go_wp2_with (first
    | (at_len; refine wpList_lenQ _ rfl _ rfl bm (M.map EM.ke) rfl (OwnsQ.to ho.out rfl) _ hn.out ?_)
    | (with_reducible refine wp_serial (by kernel_rfl) (by kernel_rfl) (by repeat with_reducible (first | apply NoBad.then | apply NoBad.inBlock | apply NoBad.jump | exact NoBad.rets)) ?_) | fail)
  all_goals go_returns
  all_goals exact ⟨rfl, (by repeat first | with_reducible (first | exact Upd.refl _ _ | assumption | apply Upd.drew | apply Upd.alloc) | refine Upd0.tr ?_ (by with_reducible assumption) | refine Upd.setCell ?_ (fun h => absurd h (by first | exact Nat.lt_irrefl _ | (simp only []; omega))) _)⟩
theorem clen_nil (w : World) : Calls Try.prog 39 #[.pointer none] w (Rets fun r w' => r = .int .i64 0 ∧ Upd0 w w') := by
  go_enter Try.func39, Try.ntmps39
  go_wp2_with (first | (with_reducible refine wp_serial (by kernel_rfl) (by kernel_rfl) (by repeat with_reducible (first | apply NoBad.then | apply NoBad.inBlock | apply NoBad.jump | exact NoBad.rets)) ?_) | fail)
  all_goals go_returns
  all_goals exact ⟨rfl, (by repeat first | with_reducible (first | exact Upd.refl _ _ | assumption | apply Upd.drew | apply Upd.alloc) | refine Upd0.tr ?_ (by with_reducible assumption) | refine Upd.setCell ?_ (fun h => absurd h (by first | exact Nat.lt_irrefl _ | (simp only []; omega))) _)⟩
theorem cnew_no (room most : Int) (h : ¬ (1 ≤ room ∧ room ≤ 200 ∧ 1 ≤ most ∧ most ≤ 2147483647)) (w : World) : Calls Try.prog 31 #[.int .i64 room, .int .i64 most] w (Rets fun r w' => r = .tuple #[.pointer none, .int .i64 1] ∧ Upd0 w w') := by
  by_cases h1 : 1 ≤ room ∧ room ≤ 200
  · have g1 := Lib.hid (show (decide ((1 : Int) ≤ room) && decide (room ≤ 200)) = true by rw [decide_eq_true h1.1, decide_eq_true h1.2]; rfl)
    have g2 := Lib.hid (show (decide ((1 : Int) ≤ most) && decide (most ≤ 2147483647)) = false by
      cases hb : decide ((1 : Int) ≤ most) && decide (most ≤ 2147483647)
      · rfl
      · simp only [Bool.and_eq_true, decide_eq_true_eq] at hb
        exact absurd ⟨h1.1, h1.2, hb.1, hb.2⟩ h)
    clear h h1
    go_enter Try.func31, Try.ntmps31
    go_wp2_with (first
      | (go_at_call 57; (with_reducible refine (within_w room 1 200 _).use ?_); rintro v w1 ⟨rfl, hu1⟩; rw [g1.out])
      | (go_at_call 57; (with_reducible refine (within_w most 1 2147483647 _).use ?_); rintro v w2 ⟨rfl, hu2⟩; rw [g2.out])
      | (with_reducible refine And.intro hu1.ext ?_)
      | (with_reducible refine And.intro hu2.ext ?_)
      | ((with_reducible refine wp_serial3_2 0 [] [0] 1 [2, 3, 4] 5 [6, 7] [_] _ [_, _, _] _ [_, _] (by kernel_rfl) (by decide +kernel) rfl rfl rfl rfl rfl ⟨Nat.zero_le _, fun s hs => absurd hs List.not_mem_nil⟩ (by repeat with_reducible (first | apply NoBad.then | apply NoBad.inBlock | apply NoBad.jump | exact NoBad.rets)) ?_); simp only [List.getElem_toArray, List.getElem_cons_succ, List.getElem_cons_zero])
      | (with_reducible refine wp_serial (by kernel_rfl) (by kernel_rfl) (by repeat with_reducible (first | apply NoBad.then | apply NoBad.inBlock | apply NoBad.jump | exact NoBad.rets)) ?_) | fail)
    all_goals go_returns
    all_goals exact ⟨rfl, (by repeat first | with_reducible (first | exact Upd.refl _ _ | assumption | apply Upd.drew | apply Upd.alloc) | refine Upd0.tr ?_ (by with_reducible assumption) | refine Upd.setCell ?_ (fun h => absurd h (by first | exact Nat.lt_irrefl _ | (simp only []; omega))) _)⟩
  · have g1 := Lib.hid (show (decide ((1 : Int) ≤ room) && decide (room ≤ 200)) = false by
      cases hb : decide ((1 : Int) ≤ room) && decide (room ≤ 200)
      · rfl
      · simp only [Bool.and_eq_true, decide_eq_true_eq] at hb
        exact absurd hb h1)
    clear h h1
    go_enter Try.func31, Try.ntmps31
    go_wp2_with (first
      | (go_at_call 57; (with_reducible refine (within_w room 1 200 _).use ?_); rintro v w1 ⟨rfl, hu1⟩; rw [g1.out])
      | (with_reducible refine And.intro hu1.ext ?_)
      | (with_reducible refine And.intro (Ext.refl _) ?_)
      | ((with_reducible refine wp_serial3_2 0 [] [0] 1 [2, 3, 4] 5 [6, 7] [_] _ [_, _, _] _ [_, _] (by kernel_rfl) (by decide +kernel) rfl rfl rfl rfl rfl ⟨Nat.zero_le _, fun s hs => absurd hs List.not_mem_nil⟩ (by repeat with_reducible (first | apply NoBad.then | apply NoBad.inBlock | apply NoBad.jump | exact NoBad.rets)) ?_); simp only [List.getElem_toArray, List.getElem_cons_succ, List.getElem_cons_zero])
      | (with_reducible refine wp_serial (by kernel_rfl) (by kernel_rfl) (by repeat with_reducible (first | apply NoBad.then | apply NoBad.inBlock | apply NoBad.jump | exact NoBad.rets)) ?_) | fail)
    all_goals go_returns
    all_goals exact ⟨rfl, (by repeat first | with_reducible (first | exact Upd.refl _ _ | assumption | apply Upd.drew | apply Upd.alloc) | refine Upd0.tr ?_ (by with_reducible assumption) | refine Upd.setCell ?_ (fun h => absurd h (by first | exact Nat.lt_irrefl _ | (simp only []; omega))) _)⟩
end Go.Proofs.Ytijmbpokglohbaa
