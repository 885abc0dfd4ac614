/-
  Equality of sets; whether a number is within two.
-/
import Derived.Test.YtijmbpokglohbaaSeE
namespace Go.Proofs.Ytijmbpokglohbaa
open Go.RowKit
set_option linter.unusedSimpArgs false
set_option linter.unusedVariables false
def oneS (s t : St) : Bool := (s.nm == t.nm) && ((s.ty == t.ty) && ((s.tl == t.tl) && (s.dt == t.dt)))
theorem oneS_1 {s t : St} (h : ¬ s.nm = t.nm) : oneS s t = false := by rw [oneS, beq_eq_false_iff_ne.2 h, Bool.false_and]
theorem oneS_2 {s t : St} (h : ¬ s.ty = t.ty) : oneS s t = false := by rw [oneS, beq_eq_false_iff_ne.2 h, Bool.false_and, Bool.and_false]
theorem oneS_3 {s t : St} (h : ¬ s.tl = t.tl) : oneS s t = false := by rw [oneS, beq_eq_false_iff_ne.2 h, Bool.false_and, Bool.and_false, Bool.and_false]
theorem oneS_4 {s t : St} (h1 : s.nm = t.nm) (h2 : s.ty = t.ty) (h3 : s.tl = t.tl) : oneS s t = (s.dt == t.dt) := by rw [oneS, beq_iff_eq.2 h1, beq_iff_eq.2 h2, beq_iff_eq.2 h3]; rfl
set_option maxRecDepth 100000 in
set_option maxHeartbeats 1000000 in
theorem one_w (s t : St) (ao bo : Option Addr) (ca cb : Nat) (w : World) (hS : SR w ao s.dt) (hT : SR w bo t.dt) (l1 : s.dt.length ≤ 1000000) (l2 : t.dt.length ≤ 1000000) :
    Calls Try.prog 38 #[s.val ao ca, t.val bo cb] w (Rets fun r w' => r = .bool (oneS s t) ∧ Upd0 w w') := by
  have hSh := Lib.hid hS
  have hTh := Lib.hid hT
  clear hS hT
  by_cases h1 : s.nm = t.nm
  · by_cases h2 : s.ty = t.ty
    · by_cases h3 : s.tl = t.tl
      · have hX := Lib.hid (oneS_4 h1 h2 h3)
        obtain ⟨nm, ty, tl, dt⟩ := s
        obtain ⟨nm', ty', tl', dt'⟩ := t
        obtain rfl : nm = nm' := h1
        obtain rfl : ty = ty' := h2
        obtain rfl : tl = tl' := h3
        simp only [St.val] at hSh hTh l1 l2 ⊢
        go_enter Try.func38, Try.ntmps38
        go_wp2_with (first
          | (go_at_call 40; (with_reducible refine (rtexts2_w ao bo ca cb dt dt' _ (hSh.out.up (by repeat first | with_reducible (first | exact Upd.refl _ _ | assumption | apply Upd.drew | apply Upd.alloc) | refine Upd0.tr ?_ (by with_reducible assumption) | refine Upd.setCell ?_ (fun h => absurd h (by first | exact Nat.lt_irrefl _ | (simp only []; omega))) _)) (hTh.out.up (by repeat first | with_reducible (first | exact Upd.refl _ _ | assumption | apply Upd.drew | apply Upd.alloc) | refine Upd0.tr ?_ (by with_reducible assumption) | refine Upd.setCell ?_ (fun h => absurd h (by first | exact Nat.lt_irrefl _ | (simp only []; omega))) _)) l1 l2).use ?_); rintro v w1 ⟨rfl, hu1⟩)
          | (with_reducible refine wp_serial (by kernel_rfl) (by kernel_rfl) (by repeat with_reducible (first | apply NoBad.then | apply NoBad.inBlock | apply NoBad.jump | exact NoBad.rets)) ?_) | fail)
        all_goals go_returns
        all_goals exact ⟨by rw [hX.out]; rfl, (by repeat first | with_reducible (first | exact Upd.refl _ _ | assumption | apply Upd.drew | apply Upd.alloc) | refine Upd0.tr ?_ (by with_reducible assumption) | refine Upd.setCell ?_ (fun h => absurd h (by first | exact Nat.lt_irrefl _ | (simp only []; omega))) _)⟩
      · have hX := Lib.hid (oneS_3 h3)
        have hne : (s.tl == t.tl) = false := beq_eq_false_iff_ne.2 h3
        obtain ⟨nm, ty, tl, dt⟩ := s
        obtain ⟨nm', ty', tl', dt'⟩ := t
        obtain rfl : nm = nm' := h1
        obtain rfl : ty = ty' := h2
        simp only [St.val] at hSh hTh l1 l2 h3 hne ⊢
        go_enter Try.func38, Try.ntmps38
        go_wp2_with (first | (with_reducible refine wp_serial (by kernel_rfl) (by kernel_rfl) (by repeat with_reducible (first | apply NoBad.then | apply NoBad.inBlock | apply NoBad.jump | exact NoBad.rets)) ?_) | fail)
        all_goals go_returns
        all_goals exact ⟨by rw [hX.out]; rfl, (by repeat first | with_reducible (first | exact Upd.refl _ _ | assumption | apply Upd.drew | apply Upd.alloc) | refine Upd0.tr ?_ (by with_reducible assumption) | refine Upd.setCell ?_ (fun h => absurd h (by first | exact Nat.lt_irrefl _ | (simp only []; omega))) _)⟩
    · have hX := Lib.hid (oneS_2 h2)
      have hne : (s.ty == t.ty) = false := beq_eq_false_iff_ne.2 h2
      obtain ⟨nm, ty, tl, dt⟩ := s
      obtain ⟨nm', ty', tl', dt'⟩ := t
      obtain rfl : nm = nm' := h1
      simp only [St.val] at hSh hTh l1 l2 h2 hne ⊢
      go_enter Try.func38, Try.ntmps38
      go_wp2_with (first | (with_reducible refine wp_serial (by kernel_rfl) (by kernel_rfl) (by repeat with_reducible (first | apply NoBad.then | apply NoBad.inBlock | apply NoBad.jump | exact NoBad.rets)) ?_) | fail)
      all_goals go_returns
      all_goals exact ⟨by rw [hX.out]; rfl, (by repeat first | with_reducible (first | exact Upd.refl _ _ | assumption | apply Upd.drew | apply Upd.alloc) | refine Upd0.tr ?_ (by with_reducible assumption) | refine Upd.setCell ?_ (fun h => absurd h (by first | exact Nat.lt_irrefl _ | (simp only []; omega))) _)⟩
  · have hX := Lib.hid (oneS_1 h1)
    have hne : (s.nm == t.nm) = false := beq_eq_false_iff_ne.2 h1
    obtain ⟨nm, ty, tl, dt⟩ := s
    obtain ⟨nm', ty', tl', dt'⟩ := t
    simp only [St.val] at hSh hTh l1 l2 h1 hne ⊢
    go_enter Try.func38, Try.ntmps38
    go_wp2_with (first | (with_reducible refine wp_serial (by kernel_rfl) (by kernel_rfl) (by repeat with_reducible (first | apply NoBad.then | apply NoBad.inBlock | apply NoBad.jump | exact NoBad.rets)) ?_) | fail)
    all_goals go_returns
    all_goals exact ⟨by rw [hX.out]; rfl, (by repeat first | with_reducible (first | exact Upd.refl _ _ | assumption | apply Upd.drew | apply Upd.alloc) | refine Upd0.tr ?_ (by with_reducible assumption) | refine Upd.setCell ?_ (fun h => absurd h (by first | exact Nat.lt_irrefl _ | (simp only []; omega))) _)⟩
theorem within_w (a b c : Int) (w : World) : Calls Try.prog 57 #[.int .i64 a, .int .i64 b, .int .i64 c] w (Rets fun r w' => r = .bool (decide (b ≤ a) && decide (a ≤ c)) ∧ Upd0 w w') := by
  by_cases h1 : b ≤ a
  · go_enter Try.func57, Try.ntmps57
    go_wp2_with (first | (with_reducible refine wp_serial (by kernel_rfl) (by kernel_rfl) (by repeat with_reducible (first | apply NoBad.then | apply NoBad.inBlock | apply NoBad.jump | exact NoBad.rets)) ?_) | fail)
    all_goals go_returns
    all_goals exact ⟨by rw [decide_eq_true h1]; rfl, (by repeat first | with_reducible (first | exact Upd.refl _ _ | assumption | apply Upd.drew | apply Upd.alloc) | refine Upd0.tr ?_ (by with_reducible assumption) | refine Upd.setCell ?_ (fun h => absurd h (by first | exact Nat.lt_irrefl _ | (simp only []; omega))) _)⟩
  · go_enter Try.func57, Try.ntmps57
    go_wp2_with (first | (with_reducible refine wp_serial (by kernel_rfl) (by kernel_rfl) (by repeat with_reducible (first | apply NoBad.then | apply NoBad.inBlock | apply NoBad.jump | exact NoBad.rets)) ?_) | fail)
    all_goals go_returns
    all_goals exact ⟨by rw [decide_eq_false (show ¬ b ≤ a by omega)]; rfl, (by repeat first | with_reducible (first | exact Upd.refl _ _ | assumption | apply Upd.drew | apply Upd.alloc) | refine Upd0.tr ?_ (by with_reducible assumption) | refine Upd.setCell ?_ (fun h => absurd h (by first | exact Nat.lt_irrefl _ | (simp only []; omega))) _)⟩
end Go.Proofs.Ytijmbpokglohbaa
