/-
  The walk of CoalNil: a table that is none has nothing.
-/
import Derived.Test.YtebnilkcpklnmaaCoL
namespace Go.Proofs.Ytebnilkcpklnmaa
open Go.RowKit Go.Maps
set_option linter.unusedSimpArgs false
set_option linter.unusedVariables false
theorem ask_nil2 (q c : Value) (w : World) : Calls Try.prog 17 #[.pointer none, q, c] w (Rets fun r w' => r = .tuple #[.int .i64 0, .bool false, .int .i64 1] ∧ Upd0 w w') := ask_nil q c w
theorem coshort_e (dO : Int) (q : Bs) (ty node id : Int) (nm : Bs) (tk : Int) (w : World) : Calls Try.prog 16 #[.agg #[.int .i64 dO, .string ⟨q.toArray⟩, .int .i64 ty, .int .i64 node, .int .i64 id, .string ⟨nm.toArray⟩, .int .i64 tk]] w (Rets fun r w' => r = .bool (decide (q.length ≤ 300) && decide (nm.length ≤ 300)) ∧ Upd0 w w') :=
  coshort_w ⟨dO, q, ty, ⟨node, id, nm⟩, tk⟩ w
theorem cell7 {w : World} {b : Nat} {a0 a1 a2 a3 a4 a5 a6 : Value} {t : TypeId} (h : w.heap[b]? = some (.cells #[a0, a1, a2, a3, a4, a5, a6] t (0, 0))) : w.cell? ⟨b, 0, none⟩ = some a0 ∧ w.cell? ⟨b, 1, none⟩ = some a1 ∧ w.cell? ⟨b, 2, none⟩ = some a2 ∧ w.cell? ⟨b, 3, none⟩ = some a3 ∧ w.cell? ⟨b, 4, none⟩ = some a4 ∧ w.cell? ⟨b, 5, none⟩ = some a5 ∧ w.cell? ⟨b, 6, none⟩ = some a6 :=
  ⟨by rw [blk_cell h]; rfl, by rw [blk_cell h]; rfl, by rw [blk_cell h]; rfl, by rw [blk_cell h]; rfl, by rw [blk_cell h]; rfl, by rw [blk_cell h]; rfl, by rw [blk_cell h]; rfl⟩
set_option maxRecDepth 100000 in
set_option maxHeartbeats 2000000 in
theorem coalNil_walk (o : OpC) (w : World) : Calls Try.prog 4 #[o.val] w (Rets fun r w' => r = .bool true ∧ Upd0 w w') := by
  obtain ⟨dO, q, ty, ⟨node, id, nm⟩, tk⟩ := o
  simp only [OpC.val]
  cases hs : (decide (q.length ≤ 300) && decide (nm.length ≤ 300)) with
  | false =>
    have hsh := Lib.hid hs
    clear hs
    go_enter Try.func4, Try.ntmps4
    go_wp2_with (first
      | (go_at_call 16; (with_reducible refine (coshort_e dO q ty node id nm tk _).use ?_); rintro v w1 ⟨rfl, hu1⟩; rw [hsh.out])
      | (go_at_call 15; (with_reducible refine (colive_w _).use ?_); rintro v w2 ⟨rfl, hu2⟩)
      | (with_reducible refine wp_serial (by kernel_rfl) (by kernel_rfl) (by (repeat (first | (with_reducible apply NoBad.then) | (with_reducible apply NoBad.inBlock) | (with_reducible exact NoBad.rets))); done) ?_) | fail)
    all_goals go_returns
    all_goals exact ⟨rfl, (by (repeat (first | (with_reducible exact Upd.refl _ _) | (with_reducible assumption) | (with_reducible apply Upd.drew) | (with_reducible apply Upd.alloc) | (refine Upd0.tr ?_ (by with_reducible assumption)) | (refine Upd.setCell ?_ (fun h => absurd h (by first | exact Nat.lt_irrefl _ | (simp only []; omega))) _))); done)⟩
  | true =>
    have hsh := Lib.hid hs
    clear hs
    go_enter Try.func4, Try.ntmps4
    go_wp2_with (first
      | (go_at_call 16; (with_reducible refine (coshort_e dO q ty node id nm tk _).use ?_); rintro v w1 ⟨rfl, hu1⟩; rw [hsh.out]; have b1 := Lib.hid (hu1.block (fun h => h) (alloc_last _ _ w.heap.size rfl)))
      | (go_at_call 14; (with_reducible refine (new_no 0 0 rfl _).use ?_); rintro v w2 ⟨rfl, hu2⟩; have b2 := Lib.hid (hu2.block (fun h => h) b1.out); obtain ⟨a0, a1, a2, a3, a4, a5, a6⟩ := cell7 b2.out)
      | (with_reducible refine wp_serial3_1 0 [] [0, 1, 2, 3, 4] 5 [6, 7, 8, 9, 10, 11, 12, 13] [_, _, _, _, _] _ [_, _, _, _, _, _, _, _] (by kernel_rfl) (by decide +kernel) rfl rfl rfl ⟨Nat.zero_le _, fun s hs => absurd hs List.not_mem_nil⟩ (by (repeat (first | (with_reducible apply NoBad.then) | (with_reducible apply NoBad.inBlock) | (with_reducible exact NoBad.rets))); done) ?_)
      | (go_at_call 18; (with_reducible refine (client_e node id nm _).use ?_); rintro v w3 ⟨rfl, hu3⟩; have b3 := Lib.hid (hu3.block (fun h => h) b2.out))
      | (refine And.intro hu3.ext ?_)
      | (go_at_call 17; (with_reducible refine (ask_nil2 _ _ _).use ?_); rintro v w4 ⟨rfl, hu4⟩; have b4 := Lib.hid (hu4.block (fun h => h) b3.out); obtain ⟨c0, c1, c2, c3, c4, c5, c6⟩ := cell7 b4.out)
      | (go_at_call 20; (with_reducible refine (done_nil _ _).use ?_); rintro v w5 ⟨rfl, hu5⟩; have b5 := Lib.hid (hu5.block (fun h => h) b4.out); obtain ⟨d0, d1, d2, d3, d4, d5, d6⟩ := cell7 b5.out)
      | (go_at_call 24; (with_reducible refine (waits_nil _ _).use ?_); rintro v w6 ⟨rfl, hu6⟩)
      | (go_at_call 23; (with_reducible refine (len_nil _).use ?_); rintro v w7 ⟨rfl, hu7⟩)
      | (go_at_call 15; (with_reducible refine (colive_w _).use ?_); rintro v w8 ⟨rfl, hu8⟩)
      | (with_reducible refine wp_serial (by kernel_rfl) (by kernel_rfl) (by (repeat (first | (with_reducible apply NoBad.then) | (with_reducible apply NoBad.inBlock) | (with_reducible exact NoBad.rets))); done) ?_) | fail)
    all_goals go_returns
    all_goals exact ⟨rfl, (by (repeat (first | (with_reducible exact Upd.refl _ _) | (with_reducible assumption) | (with_reducible apply Upd.drew) | (with_reducible apply Upd.alloc) | (refine Upd0.tr ?_ (by with_reducible assumption)) | (refine Upd.setCell ?_ (fun h => absurd h (by first | exact Nat.lt_irrefl _ | (simp only []; omega))) _))); done)⟩
end Go.Proofs.Ytebnilkcpklnmaa
