/-
  The first byte of a text that is written: the program's next.
-/
import Derived.Test.YtdjleplefbmjbaaPrB
namespace Go.Proofs.Ytdjleplefbmjbaa
open Go.RowKit
set_option linter.unusedSimpArgs false
set_option linter.unusedVariables false
def nv (l : Bs) : Nat := l.foldl (fun n d => 10 * n + (d.toNat - 48)) 0
theorem nv_snoc (l : Bs) (d : UInt8) : nv (l ++ [d]) = 10 * nv l + (d.toNat - 48) := by simp [nv]
theorem u8_lit {y : UInt8} (h1 : ¬ (y = 46 ∨ y = 92)) : ((y.toNat : Int) == 46) = false ∧ ((y.toNat : Int) == 92) = false := by
  constructor
  · rw [beq_eq_false_iff_ne]; intro e; exact h1 (.inl (UInt8.toNat_inj.1 (by show y.toNat = 46; omega)))
  · rw [beq_eq_false_iff_ne]; intro e; exact h1 (.inr (UInt8.toNat_inj.1 (by show y.toNat = 92; omega)))
def nxV (s : Bs) (r : Value) : Prop := r = .tuple #[.int .u8 (nx s).1.toNat, .int .i64 (nx s).2.1, .bool (nx s).2.2]
theorem nxV_of {s : Bs} {c : UInt8} {n : Nat} {e : Bool} (h : nx s = (c, n, e)) : nxV s (.tuple #[.int .u8 c.toNat, .int .i64 n, .bool e]) := by unfold nxV; rw [h]
set_option maxRecDepth 100000 in
theorem next_1 (x : UInt8) (t : Bs) (hx : ¬ x = 92) (w : World) : Calls Try.prog 49 #[.string ⟨(x :: t).toArray⟩] w (Rets fun r w' => nxV (x :: t) r ∧ Upd0 w w') := by
  by_cases h1 : x = 46
  · subst h1
    have hn := Lib.hid (nxV_of (nx_dot t))
    go_enter Try.func49, Try.ntmps49
    go_wp2_with (first | (with_reducible refine wp_serial (by kernel_rfl) (by kernel_rfl) (by (repeat (first | (with_reducible apply NoBad.then) | (with_reducible apply NoBad.inBlock) | (with_reducible exact NoBad.rets))); done) ?_) | fail)
    all_goals go_returns
    all_goals exact ⟨hn.out, (by (repeat (first | (with_reducible exact Upd.refl _ _) | (with_reducible assumption) | (with_reducible apply Upd.drew) | (with_reducible apply Upd.alloc) | (refine Upd0.tr ?_ (by with_reducible assumption)) | (refine Upd.setCell ?_ (fun h => absurd h (by first | exact Nat.lt_irrefl _ | (simp only []; omega))) _))); done)⟩
  · have hn := Lib.hid (nxV_of (show nx (x :: t) = (x, 1, false) by rw [nx_cons, if_neg h1, if_neg hx]))
    obtain ⟨e1, e2⟩ := u8_lit (show ¬ (x = 46 ∨ x = 92) by rintro (h | h); exact h1 h; exact hx h)
    have e3 : ((x.toNat : Int) != 92) = true := by rw [bne, e2]; rfl
    clear h1 hx
    go_enter Try.func49, Try.ntmps49
    go_wp2_with (first | (with_reducible refine wp_serial (by kernel_rfl) (by kernel_rfl) (by (repeat (first | (with_reducible apply NoBad.then) | (with_reducible apply NoBad.inBlock) | (with_reducible exact NoBad.rets))); done) ?_) | fail)
    all_goals go_returns
    all_goals exact ⟨hn.out, (by (repeat (first | (with_reducible exact Upd.refl _ _) | (with_reducible assumption) | (with_reducible apply Upd.drew) | (with_reducible apply Upd.alloc) | (refine Upd0.tr ?_ (by with_reducible assumption)) | (refine Upd.setCell ?_ (fun h => absurd h (by first | exact Nat.lt_irrefl _ | (simp only []; omega))) _))); done)⟩
set_option maxRecDepth 100000 in
theorem next_2 (t : Bs) (ht : t.length < 3) (w : World) : Calls Try.prog 49 #[.string ⟨((92 : UInt8) :: t).toArray⟩] w (Rets fun r w' => nxV (92 :: t) r ∧ Upd0 w w') := by
  cases t with
  | nil =>
    have hn := Lib.hid (nxV_of (show nx [92] = (0, 0, false) from rfl))
    go_enter Try.func49, Try.ntmps49
    go_wp2_with (first | (with_reducible refine wp_serial (by kernel_rfl) (by kernel_rfl) (by (repeat (first | (with_reducible apply NoBad.then) | (with_reducible apply NoBad.inBlock) | (with_reducible exact NoBad.rets))); done) ?_) | fail)
    all_goals go_returns
    all_goals exact ⟨hn.out, (by (repeat (first | (with_reducible exact Upd.refl _ _) | (with_reducible assumption) | (with_reducible apply Upd.drew) | (with_reducible apply Upd.alloc) | (refine Upd0.tr ?_ (by with_reducible assumption)) | (refine Upd.setCell ?_ (fun h => absurd h (by first | exact Nat.lt_irrefl _ | (simp only []; omega))) _))); done)⟩
  | cons y r =>
    by_cases h1 : y = 46 ∨ y = 92
    · have hn := Lib.hid (nxV_of (show nx (92 :: y :: r) = (y, 2, false) by rw [nx_cons, if_neg (by decide), if_pos rfl, nxE_cons, if_pos h1]))
      rcases h1 with rfl | rfl
      all_goals
        go_enter Try.func49, Try.ntmps49
        go_wp2_with (first | (with_reducible refine wp_serial (by kernel_rfl) (by kernel_rfl) (by (repeat (first | (with_reducible apply NoBad.then) | (with_reducible apply NoBad.inBlock) | (with_reducible exact NoBad.rets))); done) ?_) | fail)
        all_goals go_returns
        all_goals exact ⟨hn.out, (by (repeat (first | (with_reducible exact Upd.refl _ _) | (with_reducible assumption) | (with_reducible apply Upd.drew) | (with_reducible apply Upd.alloc) | (refine Upd0.tr ?_ (by with_reducible assumption)) | (refine Upd.setCell ?_ (fun h => absurd h (by first | exact Nat.lt_irrefl _ | (simp only []; omega))) _))); done)⟩
    · obtain ⟨e1, e2⟩ := u8_lit h1
      have hn := Lib.hid (nxV_of (show nx (92 :: y :: r) = (0, 0, false) by
        rw [nx_cons, if_neg (by decide), if_pos rfl, nxE_cons, if_neg h1]
        match r, ht with
        | [], _ => rfl
        | [a], _ => rfl
        | a :: b :: q, ht => simp at ht; omega))
      simp only [List.length_cons] at ht
      clear h1
      go_enter Try.func49, Try.ntmps49
      go_wp2_with (first | (with_reducible refine wp_serial (by kernel_rfl) (by kernel_rfl) (by (repeat (first | (with_reducible apply NoBad.then) | (with_reducible apply NoBad.inBlock) | (with_reducible exact NoBad.rets))); done) ?_) | fail)
      all_goals go_returns
      all_goals exact ⟨hn.out, (by (repeat (first | (with_reducible exact Upd.refl _ _) | (with_reducible assumption) | (with_reducible apply Upd.drew) | (with_reducible apply Upd.alloc) | (refine Upd0.tr ?_ (by with_reducible assumption)) | (refine Upd.setCell ?_ (fun h => absurd h (by first | exact Nat.lt_irrefl _ | (simp only []; omega))) _))); done)⟩
theorem nx3_no {y a b : UInt8} {q : Bs} (h1 : ¬ (y = 46 ∨ y = 92)) (h : (isD y && isD a && isD b) = false) : nx (92 :: y :: a :: b :: q) = (0, 0, false) := by
  rw [nx_cons, if_neg (by decide), if_pos rfl, nxE_cons, if_neg h1]
  show (if (isD y && isD a && isD b && _) = true then _ else _) = _
  rw [h]; rfl
theorem nx3_yes {y a b : UInt8} {q : Bs} (h1 : ¬ (y = 46 ∨ y = 92)) (h : (isD y && isD a && isD b) = true) : nx (92 :: y :: a :: b :: q) = if nv [y, a, b] ≤ 255 then (UInt8.ofNat (nv [y, a, b]), 4, false) else (0, 0, false) := by
  rw [nx_cons, if_neg (by decide), if_pos rfl, nxE_cons, if_neg h1]
  have e : 100 * (y.toNat - 48) + 10 * (a.toNat - 48) + (b.toNat - 48) = nv [y, a, b] := by simp only [nv, List.foldl_cons, List.foldl_nil]; omega
  show (if (isD y && isD a && isD b && decide (100 * (y.toNat - 48) + 10 * (a.toNat - 48) + (b.toNat - 48) ≤ 255)) = true then (UInt8.ofNat (100 * (y.toNat - 48) + 10 * (a.toNat - 48) + (b.toNat - 48)), 4, false) else (0, 0, false)) = _
  rw [e, h, Bool.true_and]
  by_cases h2 : nv [y, a, b] ≤ 255
  · rw [if_pos h2, if_pos (decide_eq_true h2)]
  · rw [if_neg h2, if_neg (by rw [decide_eq_false h2]; decide)]
theorem isD_iff {d : UInt8} : isD d = true ↔ 48 ≤ d.toNat ∧ d.toNat ≤ 57 := by simp [isD]
theorem isD_no {d : UInt8} (h : isD d = false) : d.toNat < 48 ∨ (48 ≤ d.toNat ∧ 57 < d.toNat) := by
  rcases Nat.lt_or_ge d.toNat 48 with h1 | h1
  · exact .inl h1
  · refine .inr ⟨h1, ?_⟩
    rcases Nat.lt_or_ge 57 d.toNat with h2 | h2
    · exact h2
    · rw [isD_iff.2 ⟨h1, h2⟩] at h; cases h
theorem all3 {y a b : UInt8} {m : Nat} {d : UInt8} (h : ([y, a, b] : Bs)[m]? = some d) (hd : isD d = false) : (isD y && isD a && isD b) = false := by
  match m, h with
  | 0, h => cases h; rw [hd]; rfl
  | 1, h => cases h; rw [hd]; simp
  | 2, h => cases h; rw [hd]; simp
set_option maxRecDepth 100000 in
theorem next_3 (y a b : UInt8) (q : Bs) (hq : q.length ≤ 70000) (w : World) : Calls Try.prog 49 #[.string ⟨((92 : UInt8) :: y :: a :: b :: q).toArray⟩] w (Rets fun r w' => nxV (92 :: y :: a :: b :: q) r ∧ Upd0 w w') := by
  by_cases h1 : y = 46 ∨ y = 92
  · have hn := Lib.hid (nxV_of (show nx (92 :: y :: a :: b :: q) = (y, 2, false) by rw [nx_cons, if_neg (by decide), if_pos rfl, nxE_cons, if_pos h1]))
    rcases h1 with rfl | rfl
    all_goals
      go_enter Try.func49, Try.ntmps49
      go_wp2_with (first | (with_reducible refine wp_serial (by kernel_rfl) (by kernel_rfl) (by (repeat (first | (with_reducible apply NoBad.then) | (with_reducible apply NoBad.inBlock) | (with_reducible exact NoBad.rets))); done) ?_) | fail)
      all_goals go_returns
      all_goals exact ⟨hn.out, (by (repeat (first | (with_reducible exact Upd.refl _ _) | (with_reducible assumption) | (with_reducible apply Upd.drew) | (with_reducible apply Upd.alloc) | (refine Upd0.tr ?_ (by with_reducible assumption)) | (refine Upd.setCell ?_ (fun h => absurd h (by first | exact Nat.lt_irrefl _ | (simp only []; omega))) _))); done)⟩
  · obtain ⟨e1, e2⟩ := u8_lit h1
    have h1h := Lib.hid h1
    clear h1
    go_enter Try.func49, Try.ntmps49
    go_wp2_with (first
      | (refine wpList_toB rfl (.tmp 38) 9 74 rfl 5 Try.underlying9 Try.underlying74 Try.underlying5 [y, a, b] rfl (by unfold maxLen; simp) ?_; intro cap w1 hb1 hu1 hz1; have hb1h := Lib.hid hb1; clear hb1)
      | (with_reducible refine wp_serial (by kernel_rfl) (by kernel_rfl) (by (repeat (first | (with_reducible apply NoBad.then) | (with_reducible apply NoBad.inBlock) | (with_reducible exact NoBad.rets))); done) ?_) | fail)
    have hdg : Hid (∀ m d, ([y, a, b] : Bs)[m]? = some d → isD d = false → nxV (92 :: y :: a :: b :: q) (.tuple #[.int .u8 0, .int .i64 0, .bool false])) := Lib.hid (fun m d h hd => nxV_of (nx3_no h1h.out (all3 h hd)))
    go_loopw [3, 41] (fun n i wr => ∃ (m N : Nat), m ≤ 3 ∧ i = .int .i64 m ∧ n = .int .i64 N ∧ N ≤ 999 ∧ Hid (N = nv (([y, a, b] : Bs).take m) ∧ N < 10 ^ m ∧ (([y, a, b] : Bs).take m).all isD = true) ∧ Upd0 w wr ∧ Hid (BR U8 w.heap.size wr (.slice (some ⟨w.heap.size, 0, none⟩) 3 cap) [y, a, b])) (fun _ i _ => 3 - (intOf i).toNat)
    case atStart => exact ⟨0, 0, by omega, rfl, rfl, by omega, Lib.hid ⟨rfl, by decide, rfl⟩, hu1, hb1h⟩
    case round =>
      obtain ⟨m, N, hm, rfl, rfl, hN, hI, hu, hb⟩ := hrel
      by_cases hlt : m < 3
      · obtain ⟨d, hd⟩ : ∃ d, ([y, a, b] : Bs)[m]? = some d := ⟨([y, a, b] : Bs)[m]'(by simpa using hlt), List.getElem?_eq_getElem _⟩
        have hc := hb.out.cell (i := m) (by simpa using hlt)
        rw [show ([y, a, b] : Bs)[m]'(by simpa using hlt) = d from (List.getElem?_eq_some_iff.1 hd).2] at hc
        cases hD : isD d with
        | false =>
          have hfin := Lib.hid (hdg.out m d hd hD)
          have hD2 := isD_no hD
          clear hd hD
          rcases hD2 with h1 | ⟨h1, h2⟩
          all_goals
            go_wp2_with (first | (with_reducible refine wp_serial (by kernel_rfl) (by kernel_rfl) (by (repeat (first | (with_reducible apply NoBad.then) | (with_reducible apply NoBad.inBlock) | (with_reducible exact NoBad.rets))); done) ?_) | fail)
            all_goals go_returns
            all_goals exact ⟨hfin.out, (by (repeat (first | (with_reducible exact Upd.refl _ _) | (with_reducible assumption) | (with_reducible apply Upd.drew) | (with_reducible apply Upd.alloc) | (refine Upd0.tr ?_ (by with_reducible assumption)) | (refine Upd.setCell ?_ (fun h => absurd h (by first | exact Nat.lt_irrefl _ | (simp only []; omega))) _))); done)⟩
        | true =>
          obtain ⟨d1, d2⟩ := isD_iff.1 hD
          have hst : ([y, a, b] : Bs).take (m + 1) = ([y, a, b] : Bs).take m ++ [d] := by
            rw [List.take_succ_eq_append_getElem (by simpa using hlt)]; congr 2; exact (List.getElem?_eq_some_iff.1 hd).2
          have hN2 : N ≤ 99 := by
            have := hI.out.2.1
            have : 10 ^ m ≤ 10 ^ 2 := Nat.pow_le_pow_right (by decide) (by omega)
            omega
          have hst2 := Lib.hid (show nv (([y, a, b] : Bs).take (m + 1)) = 10 * N + (d.toNat - 48) ∧ 10 * N + (d.toNat - 48) < 10 ^ (m + 1) ∧ (([y, a, b] : Bs).take (m + 1)).all isD = true by
            refine ⟨by rw [hst, nv_snoc, ← hI.out.1], ?_, by rw [hst, List.all_append, hI.out.2.2]; simp [hD]⟩
            have := hI.out.2.1
            rw [Nat.pow_succ]; omega)
          clear hd hD hst
          go_wp2_with (first | (with_reducible refine wp_serial (by kernel_rfl) (by kernel_rfl) (by (repeat (first | (with_reducible apply NoBad.then) | (with_reducible apply NoBad.inBlock) | (with_reducible exact NoBad.rets))); done) ?_) | fail)
          go_roundw
          case rel => exact ⟨m + 1, 10 * N + (d.toNat - 48), by omega, by go_num, congrArg (Value.int IntKind.i64) (by omega), by omega, Lib.hid ⟨hst2.out.1.symm, hst2.out.2.1, hst2.out.2.2⟩, (by (repeat (first | (with_reducible exact Upd.refl _ _) | (with_reducible assumption) | (with_reducible apply Upd.drew) | (with_reducible apply Upd.alloc) | (refine Upd0.tr ?_ (by with_reducible assumption)) | (refine Upd.setCell ?_ (fun h => absurd h (by first | exact Nat.lt_irrefl _ | (simp only []; omega))) _))); done), hb⟩
          case measure => simp [intOf]; omega
      · obtain rfl : m = 3 := by omega
        have hall : (isD y && isD a && isD b) = true := by have := hI.out.2.2; simpa [Bool.and_assoc] using this
        have hv := nx3_yes (q := q) h1h.out hall
        rw [show nv [y, a, b] = N from hI.out.1.symm] at hv
        by_cases h255 : N ≤ 255
        · rw [if_pos h255] at hv
          have hfin := nxV_of hv
          rw [show (UInt8.ofNat N).toNat = N by rw [UInt8.toNat_ofNat']; omega] at hfin
          have hfh := Lib.hid hfin
          clear hv hfin hall
          go_wp2_with (first | (with_reducible refine wp_serial (by kernel_rfl) (by kernel_rfl) (by (repeat (first | (with_reducible apply NoBad.then) | (with_reducible apply NoBad.inBlock) | (with_reducible exact NoBad.rets))); done) ?_) | fail)
          all_goals go_returns
          all_goals exact ⟨hfh.out, (by (repeat (first | (with_reducible exact Upd.refl _ _) | (with_reducible assumption) | (with_reducible apply Upd.drew) | (with_reducible apply Upd.alloc) | (refine Upd0.tr ?_ (by with_reducible assumption)) | (refine Upd.setCell ?_ (fun h => absurd h (by first | exact Nat.lt_irrefl _ | (simp only []; omega))) _))); done)⟩
        · rw [if_neg h255] at hv
          have hfh := Lib.hid (nxV_of hv)
          clear hv hall
          go_wp2_with (first | (with_reducible refine wp_serial (by kernel_rfl) (by kernel_rfl) (by (repeat (first | (with_reducible apply NoBad.then) | (with_reducible apply NoBad.inBlock) | (with_reducible exact NoBad.rets))); done) ?_) | fail)
          all_goals go_returns
          all_goals exact ⟨hfh.out, (by (repeat (first | (with_reducible exact Upd.refl _ _) | (with_reducible assumption) | (with_reducible apply Upd.drew) | (with_reducible apply Upd.alloc) | (refine Upd0.tr ?_ (by with_reducible assumption)) | (refine Upd.setCell ?_ (fun h => absurd h (by first | exact Nat.lt_irrefl _ | (simp only []; omega))) _))); done)⟩
theorem next_w (s : Bs) (hs : s ≠ []) (hm : s.length ≤ 70000) (w : World) : Calls Try.prog 49 #[.string ⟨s.toArray⟩] w (Rets fun r w' => r = .tuple #[.int .u8 (nx s).1.toNat, .int .i64 (nx s).2.1, .bool (nx s).2.2] ∧ Upd0 w w') := by
  cases s with
  | nil => exact absurd rfl hs
  | cons x t =>
    by_cases hx : x = 92
    · subst hx
      match t, hm with
      | [], _ => exact next_2 [] (by decide) w
      | [y], _ => exact next_2 [y] (by simp) w
      | [y, a], _ => exact next_2 [y, a] (by simp) w
      | y :: a :: b :: q, hm => exact next_3 y a b q (by simp at hm; omega) w
    · exact next_1 x t hx w
end Go.Proofs.Ytdjleplefbmjbaa
