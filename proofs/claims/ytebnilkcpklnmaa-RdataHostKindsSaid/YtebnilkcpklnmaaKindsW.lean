/-
  The walk of RdataHostKinds: each type that holds a name tells it.
-/
import Derived.Test.YtebnilkcpklnmaaRdQ
import Derived.Test.YtebnilkcpklnmaaRdS
namespace Go.Proofs.Ytebnilkcpklnmaa
open Go.RowKit
set_option linter.unusedSimpArgs false
set_option linter.unusedVariables false
set_option maxRecDepth 100000 in
theorem kinds_no (n : Bs) (h : cutB n = false) (w : World) : Calls Try.prog 13 #[.string ⟨n.toArray⟩] w (Rets fun r w' => r = .bool true ∧ Upd0 w w') := by
  have hS := Lib.hid (show hostS n = [] ∧ checkC n = 1 by rw [hostS, checkC, h]; exact ⟨rfl, rfl⟩)
  clear h
  rcases Nat.lt_or_ge 300 n.length with hb | hb
  all_goals
    go_enter Try.func13, Try.ntmps13
    go_wp2_with (first
      | (go_at_call 35; (with_reducible refine (host_w n (by omega) _).use ?_); rintro v w1 ⟨rfl, hu1⟩; rw [hS.out.1, hS.out.2])
      | (go_at_call 28; (with_reducible refine (live_w _).use ?_); rintro v w2 ⟨rfl, hu2⟩)
      | (with_reducible refine wp_serial (by kernel_rfl) (by kernel_rfl) (by (repeat (first | (with_reducible apply NoBad.then) | (with_reducible apply NoBad.inBlock) | (with_reducible exact NoBad.rets))); done) ?_)
      | fail)
    all_goals go_returns
    all_goals exact ⟨rfl, (by (repeat (first | (with_reducible exact Upd.refl _ _) | (with_reducible assumption) | (with_reducible apply Upd.drew) | (with_reducible apply Upd.alloc) | (refine Upd0.tr ?_ (by with_reducible assumption)) | (refine Upd.setCell ?_ (fun h => absurd h (by first | exact Nat.lt_irrefl _ | (simp only []; omega))) _))); done)⟩
def aheads : List Bs := [[], [], [], [97, 98], [97, 98, 99, 100, 101, 102]]
def kinds : List Int := [2, 5, 12, 15, 33]
theorem kind_ph {n : Bs} (h : cutB n = true) {i : Nat} {k : Int} {p : Bs} (hk : kinds[i]? = some k) (hp : aheads[i]? = some p) : phC k (p ++ (n ++ [0])) = 0 ∧ phN k (p ++ (n ++ [0])) = n ∧ kindB k = true ∧ fitB k (p ++ (n ++ [0])) = true ∧ p.length ≤ 6 := by
  have ha : aheadZ k = p.length ∧ kindB k = true ∧ k ≠ 1 ∧ k ≠ 28 ∧ k ≠ 16 ∧ k ≠ 6 ∧ p.length ≤ 6 := by
    match i, hk, hp with
    | 0, hk, hp => cases hk; cases hp; decide
    | 1, hk, hp => cases hk; cases hp; decide
    | 2, hk, hp => cases hk; cases hp; decide
    | 3, hk, hp => cases hk; cases hp; decide
    | 4, hk, hp => cases hk; cases hp; decide
    | i + 5, hk, hp => cases hk
  obtain ⟨a1, a2, a3, a4, a5, a6, a7⟩ := ha
  obtain ⟨b1, b2⟩ := ph_read h k p a1
  exact ⟨b1, b2, a2, by rw [fitB, if_neg a3, if_neg a4, if_neg a5, if_neg a6, b1]; rfl, a7⟩
set_option maxRecDepth 100000 in
set_option maxHeartbeats 1000000 in
theorem kinds_yes (n : Bs) (h : cutB n = true) (w : World) : Calls Try.prog 13 #[.string ⟨n.toArray⟩] w (Rets fun r w' => r = .bool true ∧ Upd0 w w') := by
  have hS := Lib.hid (show hostS n = n ++ [0] ∧ checkC n = 0 from hostS_yes h)
  have hc := Lib.hid h
  have hl := cutB_len h
  have hl2 : ¬ 300 < n.length := by omega
  clear h
  go_enter Try.func13, Try.ntmps13
  go_wp2_with (first
    | (go_at_call 35; (with_reducible refine (host_w n (by omega) _).use ?_); rintro v w1 ⟨rfl, hu1⟩; rw [hS.out.1, hS.out.2])
    | (with_reducible refine wp_serial (by kernel_rfl) (by kernel_rfl) (by (repeat (first | (with_reducible apply NoBad.then) | (with_reducible apply NoBad.inBlock) | (with_reducible exact NoBad.rets))); done) ?_)
    | fail)
  have hx := hu1.size
  go_loopw [7] (fun i wr => ∃ k : Nat, k ≤ 5 ∧ i = .int .i64 k ∧ Hid (Upd0 w wr ∧ wr.heap[w1.heap.size]? = some (.cells #[.int .i64 2, .int .i64 5, .int .i64 12, .int .i64 15, .int .i64 33] 3 (0, 0)) ∧ wr.heap[w1.heap.size + 1]? = some (.cells #[.string ⟨#[]⟩, .string ⟨#[]⟩, .string ⟨#[]⟩, .string ⟨#[97, 98]⟩, .string ⟨#[97, 98, 99, 100, 101, 102]⟩] 9 (0, 0))))
    (fun i _ => 5 - (intOf i).toNat)
  case atStart => exact ⟨0, by omega, rfl, Lib.hid ⟨(by (repeat (first | (with_reducible exact Upd.refl _ _) | (with_reducible assumption) | (with_reducible apply Upd.drew) | (with_reducible apply Upd.alloc) | (refine Upd0.tr ?_ (by with_reducible assumption)) | (refine Upd.setCell ?_ (fun h => absurd h (by first | exact Nat.lt_irrefl _ | (simp only []; omega))) _))); done), blk_alloc (alloc_last _ _ _ rfl), alloc_last _ _ _ (by simp)⟩⟩
  case round =>
    obtain ⟨i, hi, rfl, hwr⟩ := hrel
    by_cases hlt : i < 5
    · obtain ⟨k, hk⟩ : ∃ k, kinds[i]? = some k := ⟨kinds[i]'(by simpa [kinds] using hlt), List.getElem?_eq_getElem _⟩
      obtain ⟨p, hp⟩ : ∃ p, aheads[i]? = some p := ⟨aheads[i]'(by simpa [aheads] using hlt), List.getElem?_eq_getElem _⟩
      obtain ⟨c1, c2, c3, c4, c5⟩ := kind_ph hc.out hk hp
      have q1 : wr.cell? ⟨w1.heap.size, i, none⟩ = some (.int .i64 k) := by
        rw [blk_cell hwr.out.2.1]
        have : ([.int .i64 2, .int .i64 5, .int .i64 12, .int .i64 15, .int .i64 33] : List Value)[i]? = (kinds[i]?).map (.int .i64) := by rw [← List.getElem?_map]; rfl
        simpa [hk] using this
      have q2 : wr.cell? ⟨w1.heap.size + 1, i, none⟩ = some (.string ⟨p.toArray⟩) := by
        rw [blk_cell hwr.out.2.2]
        have : ([.string ⟨#[]⟩, .string ⟨#[]⟩, .string ⟨#[]⟩, .string ⟨#[97, 98]⟩, .string ⟨#[97, 98, 99, 100, 101, 102]⟩] : List Value)[i]? = (aheads[i]?).map (fun p => .string ⟨p.toArray⟩) := by rw [← List.getElem?_map]; rfl
        simpa [hp] using this
      have hd := Lib.hid (show recC [] k 0 (p ++ (n ++ [0])) = 0 by rw [recC_yes c3 (by decide) (by rw [dataB_small (by simp; omega)]; exact c4)]; rfl)
      have hph := Lib.hid (And.intro c1 c2)
      clear hk hp c1 c2 c3 c4
      go_wp2_with (first
        | (go_at_call 37; (with_reducible refine (parseHost_w k (p ++ (n ++ [0])) (by simp; omega) _).use ?_); rintro v w2 ⟨rfl, hu2⟩; rw [hph.out.1, hph.out.2]; have y1 := Lib.hid (hu2.block (fun h => h) hwr.out.2.1); have y2 := Lib.hid (hu2.block (fun h => h) hwr.out.2.2); have q3 := (hu2.cell (fun h => h) q1))
        | (go_at_call 29; (with_reducible refine (recCheck_w [] k 0 (p ++ (n ++ [0])) (by decide) (by simp; omega) _).use ?_); rintro v w3 ⟨rfl, hu3⟩; rw [hd.out]; have y3 := Lib.hid (hu3.block (fun h => h) y1.out); have y4 := Lib.hid (hu3.block (fun h => h) y2.out))
        | (with_reducible refine wp_serial (by kernel_rfl) (by kernel_rfl) (by (repeat (first | (with_reducible apply NoBad.then) | (with_reducible apply NoBad.inBlock) | (with_reducible exact NoBad.rets))); done) ?_)
        | fail)
      have hup := hwr.out.1
      go_roundw
      case rel => exact ⟨i + 1, by omega, by go_num, Lib.hid ⟨(by (repeat (first | (with_reducible exact Upd.refl _ _) | (with_reducible assumption) | (with_reducible apply Upd.drew) | (with_reducible apply Upd.alloc) | (refine Upd0.tr ?_ (by with_reducible assumption)) | (refine Upd.setCell ?_ (fun h => absurd h (by first | exact Nat.lt_irrefl _ | (simp only []; omega))) _))); done), y3.out, y4.out⟩⟩
      case measure => simp [intOf]; omega
    · have hup := hwr.out.1
      go_wp2_with (first
        | (go_at_call 28; (with_reducible refine (live_w _).use ?_); rintro v w2 ⟨rfl, hu2⟩)
        | (with_reducible refine wp_serial (by kernel_rfl) (by kernel_rfl) (by (repeat (first | (with_reducible apply NoBad.then) | (with_reducible apply NoBad.inBlock) | (with_reducible exact NoBad.rets))); done) ?_)
        | fail)
      all_goals go_returns
      all_goals exact ⟨rfl, (by (repeat (first | (with_reducible exact Upd.refl _ _) | (with_reducible assumption) | (with_reducible apply Upd.drew) | (with_reducible apply Upd.alloc) | (refine Upd0.tr ?_ (by with_reducible assumption)) | (refine Upd.setCell ?_ (fun h => absurd h (by first | exact Nat.lt_irrefl _ | (simp only []; omega))) _))); done)⟩
theorem rdataHostKinds_walk (n : Bs) (w : World) : Calls Try.prog 13 #[.string ⟨n.toArray⟩] w (Rets fun r w' => r = .bool true ∧ Upd0 w w') := by
  cases h : cutB n with
  | true => exact kinds_yes n h w
  | false => exact kinds_no n h w
end Go.Proofs.Ytebnilkcpklnmaa
