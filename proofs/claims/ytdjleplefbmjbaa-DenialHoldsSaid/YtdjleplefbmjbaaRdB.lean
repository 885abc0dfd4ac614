/-
  A name as data; which types hold one.
-/
import Derived.Test.YtdjleplefbmjbaaRdA
namespace Go.Proofs.Ytdjleplefbmjbaa
open Go.RowKit
set_option linter.unusedSimpArgs false
set_option linter.unusedVariables false
def hostS (s : Bs) : Bs := if cutB s then s ++ [0] else []
theorem host_w (s : Bs) (hm : s.length ≤ 70000) (w : World) : Calls Try.prog 66 #[.string ⟨s.toArray⟩] w (Rets fun r w' => r = .tuple #[.string ⟨(hostS s).toArray⟩, .int .i64 (checkC s)] ∧ Upd0 w w') := by
  go_enter Try.func66, Try.ntmps66
  cases hb : cutB s
  all_goals
    have hC := Lib.hid (show checkC s = _ by rw [checkC, hb])
    have hbh := Lib.hid hb
    clear hb
    go_wp2_with (first
      | (go_at_call 23; refine (check_any s (by unfold maxLen; omega) _).use ?_; rintro v w1 ⟨rfl, hu1⟩; rw [hC.out])
      | fail)
    all_goals go_returns
    all_goals exact ⟨by simp [hostS, hC.out, hbh.out], (by (repeat (first | (with_reducible exact Upd.refl _ _) | (with_reducible assumption) | (with_reducible apply Upd.drew) | (with_reducible apply Upd.alloc) | (refine Upd0.tr ?_ (by with_reducible assumption)) | (refine Upd.setCell ?_ (fun h => absurd h (by first | exact Nat.lt_irrefl _ | (simp only []; omega))) _))); done)⟩
/-- is the last byte 0? -/
def end0 (s : Bs) : Bool := s.getLast? == some 0
theorem snoc_or (s : Bs) : s = [] ∨ ∃ t c, s = t ++ [c] := by
  rcases List.eq_nil_or_concat s with h | ⟨t, c, h⟩
  · exact .inl h
  · exact .inr ⟨t, c, by rw [h]; simp⟩
theorem hasSuffix_w (s : Bs) (hm : s.length ≤ 70000) (w : World) : Calls Try.prog 87 #[.string ⟨s.toArray⟩, .string ⟨#[0]⟩] w (Rets fun r w' => r = .bool (end0 s) ∧ Upd0 w w') := by
  rcases snoc_or s with rfl | ⟨t, c, rfl⟩
  · go_enter Try.func87, Try.ntmps87
    go_wp2_with (first | fail)
    all_goals go_returns
    exact ⟨rfl, Upd.refl _ _⟩
  · simp only [List.length_append, List.length_cons, List.length_nil] at hm
    go_enter Try.func87, Try.ntmps87
    go_wp2_with (first | fail)
    all_goals go_returns
    exact ⟨by simp [end0, List.take_of_length_le], Upd.refl _ _⟩
def cutSufS (s : Bs) : Bs := if end0 s then s.dropLast else s
theorem cutSuffixI_w (s : Bs) (hm : s.length ≤ 70000) (w : World) : Calls Try.prog 86 #[.string ⟨s.toArray⟩, .string ⟨#[0]⟩] w (Rets fun r w' => r = .tuple #[.string ⟨(cutSufS s).toArray⟩, .bool (end0 s)] ∧ Upd0 w w') := by
  cases hb : end0 s
  all_goals
    have hbh := Lib.hid hb
    go_enter Try.func86, Try.ntmps86
  · clear hb
    go_wp2_with (first
      | (go_at_call 87; refine (hasSuffix_w s hm _).use ?_; rintro v w1 ⟨rfl, hu1⟩; rw [hbh.out])
      | fail)
    all_goals go_returns
    exact ⟨by simp [cutSufS, hbh.out], (by (repeat (first | (with_reducible exact Upd.refl _ _) | (with_reducible assumption) | (with_reducible apply Upd.drew) | (with_reducible apply Upd.alloc) | (refine Upd0.tr ?_ (by with_reducible assumption)) | (refine Upd.setCell ?_ (fun h => absurd h (by first | exact Nat.lt_irrefl _ | (simp only []; omega))) _))); done)⟩
  · rcases snoc_or s with rfl | ⟨t, c, rfl⟩
    · exact absurd hb (by decide)
    · clear hb
      simp only [List.length_append, List.length_cons, List.length_nil] at hm
      go_wp2_with (first
        | (go_at_call 87; refine (hasSuffix_w (t ++ [c]) (by simp; omega) _).use ?_; rintro v w1 ⟨rfl, hu1⟩; rw [hbh.out])
        | fail)
      all_goals go_returns
      exact ⟨by simp [cutSufS, hbh.out], (by (repeat (first | (with_reducible exact Upd.refl _ _) | (with_reducible assumption) | (with_reducible apply Upd.drew) | (with_reducible apply Upd.alloc) | (refine Upd0.tr ?_ (by with_reducible assumption)) | (refine Upd.setCell ?_ (fun h => absurd h (by first | exact Nat.lt_irrefl _ | (simp only []; omega))) _))); done)⟩
theorem cutSuffix_w (s : Bs) (hm : s.length ≤ 70000) (w : World) : Calls Try.prog 85 #[.string ⟨s.toArray⟩, .string ⟨#[0]⟩] w (Rets fun r w' => r = .tuple #[.string ⟨(cutSufS s).toArray⟩, .bool (end0 s)] ∧ Upd0 w w') := by
  go_enter Try.func85, Try.ntmps85
  go_wp2_with (first
    | (go_at_call 86; refine (cutSuffixI_w s hm _).use ?_; rintro v w1 ⟨rfl, hu1⟩)
    | fail)
  all_goals go_returns
  exact ⟨rfl, (by (repeat (first | (with_reducible exact Upd.refl _ _) | (with_reducible assumption) | (with_reducible apply Upd.drew) | (with_reducible apply Upd.alloc) | (refine Upd0.tr ?_ (by with_reducible assumption)) | (refine Upd.setCell ?_ (fun h => absurd h (by first | exact Nat.lt_irrefl _ | (simp only []; omega))) _))); done)⟩
def hostOk (s : Bs) : Bool := end0 s && cutB s.dropLast
theorem dropLast_le (s : Bs) : s.dropLast.length ≤ s.length := by simp
def hostN (s : Bs) : Bs := if hostOk s then s.dropLast else []
theorem hostof_w (s : Bs) (hm : s.length ≤ 70000) (w : World) : Calls Try.prog 83 #[.string ⟨s.toArray⟩] w (Rets fun r w' => r = .tuple #[.string ⟨(hostN s).toArray⟩, .bool (hostOk s)] ∧ Upd0 w w') := by
  have hdl := dropLast_le s
  cases hb : end0 s
  · have hbh := Lib.hid hb
    clear hb
    go_enter Try.func83, Try.ntmps83
    go_wp2_with (first
      | (with_reducible refine wp_serial (by kernel_rfl) (by kernel_rfl) (by (repeat (first | (with_reducible apply NoBad.then) | (with_reducible apply NoBad.inBlock) | (with_reducible exact NoBad.rets))); done) ?_)
      | (go_at_call 85; refine (cutSuffix_w s hm _).use ?_; rintro v w1 ⟨rfl, hu1⟩; rw [hbh.out])
      | fail)
    all_goals go_returns
    exact ⟨by simp [hostN, hostOk, hbh.out], (by (repeat (first | (with_reducible exact Upd.refl _ _) | (with_reducible assumption) | (with_reducible apply Upd.drew) | (with_reducible apply Upd.alloc) | (refine Upd0.tr ?_ (by with_reducible assumption)) | (refine Upd.setCell ?_ (fun h => absurd h (by first | exact Nat.lt_irrefl _ | (simp only []; omega))) _))); done)⟩
  · have hbh := Lib.hid hb
    clear hb
    cases hc : cutB s.dropLast
    all_goals
      have hC := Lib.hid (show checkC s.dropLast = _ by rw [checkC, hc])
      have hch := Lib.hid hc
      clear hc
      go_enter Try.func83, Try.ntmps83
      go_wp2_with (first
        | (with_reducible refine wp_serial (by kernel_rfl) (by kernel_rfl) (by (repeat (first | (with_reducible apply NoBad.then) | (with_reducible apply NoBad.inBlock) | (with_reducible exact NoBad.rets))); done) ?_)
        | (go_at_call 85; refine (cutSuffix_w s hm _).use ?_; rintro v w1 ⟨rfl, hu1⟩; rw [hbh.out, cutSufS, if_pos hbh.out])
        | (go_at_call 23; refine (check_any s.dropLast (by unfold maxLen; omega) _).use ?_; rintro v w2 ⟨rfl, hu2⟩; rw [hC.out])
        | fail)
      all_goals go_returns
      all_goals exact ⟨by simp [hostN, hostOk, hbh.out, hch.out], (by (repeat (first | (with_reducible exact Upd.refl _ _) | (with_reducible assumption) | (with_reducible apply Upd.drew) | (with_reducible apply Upd.alloc) | (refine Upd0.tr ?_ (by with_reducible assumption)) | (refine Upd.setCell ?_ (fun h => absurd h (by first | exact Nat.lt_irrefl _ | (simp only []; omega))) _))); done)⟩
def aheadZ (k : Int) : Int := if k = 33 then 6 else if k = 15 then 2 else if k = 2 ∨ k = 5 ∨ k = 12 then 0 else -1
theorem ahead_w (k : Int) (w : World) : Calls Try.prog 84 #[.int .i64 k] w (Rets fun r w' => r = .int .i64 (aheadZ k) ∧ Upd0 w w') := by
  go_enter Try.func84, Try.ntmps84
  go_wp2_with (first | fail)
  all_goals go_returns
  all_goals exact ⟨by simp_all [aheadZ], (by (repeat (first | (with_reducible exact Upd.refl _ _) | (with_reducible assumption) | (with_reducible apply Upd.drew) | (with_reducible apply Upd.alloc) | (refine Upd0.tr ?_ (by with_reducible assumption)) | (refine Upd.setCell ?_ (fun h => absurd h (by first | exact Nat.lt_irrefl _ | (simp only []; omega))) _))); done)⟩
theorem aheadZ_or (k : Int) : aheadZ k = -1 ∨ aheadZ k = 0 ∨ aheadZ k = 2 ∨ aheadZ k = 6 := by
  unfold aheadZ; split; simp; split; simp; split <;> simp
/-- the name that a type's data tells: what it is not, or it is -/
def phC (k : Int) (d : Bs) : Int := if aheadZ k < 0 then 5 else if (d.length : Int) < aheadZ k then 2 else if hostOk (d.drop (aheadZ k).toNat) then 0 else 2
def phN (k : Int) (d : Bs) : Bs := if phC k d = 0 then (d.drop (aheadZ k).toNat).dropLast else []
theorem parseHost_w (k : Int) (d : Bs) (hm : d.length ≤ 70000) (w : World) : Calls Try.prog 82 #[.int .i64 k, .string ⟨d.toArray⟩] w (Rets fun r w' => r = .tuple #[.string ⟨(phN k d).toArray⟩, .int .i64 (phC k d)] ∧ Upd0 w w') := by
  have h4 := aheadZ_or k
  rcases h4 with h | h | h | h
  · have hh := Lib.hid h
    clear h
    go_enter Try.func82, Try.ntmps82
    go_wp2_with (first
      | (with_reducible refine wp_serial (by kernel_rfl) (by kernel_rfl) (by (repeat (first | (with_reducible apply NoBad.then) | (with_reducible apply NoBad.inBlock) | (with_reducible exact NoBad.rets))); done) ?_)
      | (go_at_call 84; refine (ahead_w k _).use ?_; rintro v w1 ⟨rfl, hu1⟩; rw [hh.out])
      | fail)
    all_goals go_returns
    exact ⟨by simp [phN, phC, hh.out], (by (repeat (first | (with_reducible exact Upd.refl _ _) | (with_reducible assumption) | (with_reducible apply Upd.drew) | (with_reducible apply Upd.alloc) | (refine Upd0.tr ?_ (by with_reducible assumption)) | (refine Upd.setCell ?_ (fun h => absurd h (by first | exact Nat.lt_irrefl _ | (simp only []; omega))) _))); done)⟩
  all_goals
    have hh := Lib.hid h
    have hlt : (d.length : Int) < aheadZ k ∨ aheadZ k ≤ (d.length : Int) := by omega
    rw [h] at hlt
    clear h
    rcases hlt with hlt | hlt
    · go_enter Try.func82, Try.ntmps82
      go_wp2_with (first
        | (with_reducible refine wp_serial (by kernel_rfl) (by kernel_rfl) (by (repeat (first | (with_reducible apply NoBad.then) | (with_reducible apply NoBad.inBlock) | (with_reducible exact NoBad.rets))); done) ?_)
        | (go_at_call 84; refine (ahead_w k _).use ?_; rintro v w1 ⟨rfl, hu1⟩; rw [hh.out])
        | fail)
      all_goals go_returns
      all_goals exact ⟨by simp [phN, phC, hh.out]; omega, (by (repeat (first | (with_reducible exact Upd.refl _ _) | (with_reducible assumption) | (with_reducible apply Upd.drew) | (with_reducible apply Upd.alloc) | (refine Upd0.tr ?_ (by with_reducible assumption)) | (refine Upd.setCell ?_ (fun h => absurd h (by first | exact Nat.lt_irrefl _ | (simp only []; omega))) _))); done)⟩
    · obtain ⟨e, he⟩ : ∃ e, d.drop (aheadZ k).toNat = e := ⟨_, rfl⟩
      have hel : e.length ≤ d.length := by rw [← he]; simp
      have hC := Lib.hid (show phC k d = if hostOk e then 0 else 2 by rw [phC, he, hh.out, if_neg (by decide), if_neg (by omega)])
      have hN := Lib.hid (show phN k d = hostN e by
        have : phN k d = if phC k d = 0 then e.dropLast else [] := by rw [phN, he]
        rw [this, hC.out, hostN]; cases hostOk e <;> simp)
      have he2 := he
      rw [hh.out] at he2
      simp only [Int.reduceToNat, List.drop_zero] at he2
      clear he
      cases hok : hostOk e
      all_goals
        have hokh := Lib.hid hok
        clear hok
        go_enter Try.func82, Try.ntmps82
        go_wp2_with (first
          | (with_reducible refine wp_serial (by kernel_rfl) (by kernel_rfl) (by (repeat (first | (with_reducible apply NoBad.then) | (with_reducible apply NoBad.inBlock) | (with_reducible exact NoBad.rets))); done) ?_)
          | (go_at_call 84; refine (ahead_w k _).use ?_; rintro v w1 ⟨rfl, hu1⟩; rw [hh.out])
          | (go_at_call 83; refine (hostof_w e (by omega) _).use ?_; rintro v w2 ⟨rfl, hu2⟩; rw [hokh.out])
          | fail)
        all_goals go_returns
        all_goals exact ⟨by rw [hC.out, hN.out]; simp [hostN, hokh.out], (by (repeat (first | (with_reducible exact Upd.refl _ _) | (with_reducible assumption) | (with_reducible apply Upd.drew) | (with_reducible apply Upd.alloc) | (refine Upd0.tr ?_ (by with_reducible assumption)) | (refine Upd.setCell ?_ (fun h => absurd h (by first | exact Nat.lt_irrefl _ | (simp only []; omega))) _))); done)⟩
end Go.Proofs.Ytdjleplefbmjbaa
