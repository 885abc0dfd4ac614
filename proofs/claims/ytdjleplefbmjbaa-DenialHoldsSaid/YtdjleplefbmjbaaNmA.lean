/-
  Texts and lists of texts compared: cmp.Compare, slices.Compare, slices.Equal.
-/
import Derived.Test.YtdjleplefbmjbaaFlD
import Derived.Test.YtdjleplefbmjbaaOrd
namespace Go.Proofs.Ytdjleplefbmjbaa
open Go.RowKit
set_option linter.unusedSimpArgs false
set_option linter.unusedVariables false
theorem ba_loop (bs : ByteArray) : ∀ (n i : Nat) (r : List UInt8), bs.size - i = n → ByteArray.toList.loop bs i r = r.reverse ++ bs.data.toList.drop i := by
  intro n
  induction n with
  | zero =>
    intro i r h
    rw [ByteArray.toList.loop]
    have h' : ¬ i < bs.size := by omega
    rw [if_neg h', List.drop_of_length_le (by simp only [Array.length_toList]; show bs.size ≤ i; omega)]; simp
  | succ n ih =>
    intro i r h
    rw [ByteArray.toList.loop]
    have h' : i < bs.size := by omega
    have h2 : i < bs.data.toList.length := by simp only [Array.length_toList]; exact h'
    rw [if_pos h', ih (i + 1) _ (by omega), List.drop_eq_getElem_cons h2]
    have e : bs.get! i = bs.data.toList[i] := by
      show bs.data[i]! = _
      rw [getElem!_pos bs.data i (by simpa using h2)]; simp
    rw [e]; simp
theorem ba_toList (l : Bs) : (⟨l.toArray⟩ : ByteArray).toList = l := by
  rw [ByteArray.toList, ba_loop _ _ 0 [] rfl]; simp
attribute [go_sem] ba_toList
theorem cmpS_facts (a b : Bs) : (Op.bytesLess a b = true ∧ cmpS a b = -1) ∨ (a = b ∧ cmpS a b = 0 ∧ Op.bytesLess a b = false) ∨ (Op.bytesLess a b = false ∧ (a == b) = false ∧ cmpS a b = 1) := by
  have h1 := less_cmp a b
  have h2 := less_cmp b a
  have hn := cmpS_ok.neg a b
  rcases cmpS_ok.one a b with h | h | h
  · left; rw [h1, h]; exact ⟨rfl, rfl⟩
  · right; left
    refine ⟨(cmpS_ok.zero a b).1 h, h, ?_⟩
    rw [h1, h]; rfl
  · right; right
    refine ⟨by rw [h1, h]; rfl, ?_, h⟩
    rw [beq_eq_false_iff_ne]
    rintro rfl
    rw [cmpS_ok.refl] at h; cases h
set_option maxRecDepth 100000 in
theorem isNaN_string (a : Bs) (w : World) : Calls Try.prog 80 #[.string ⟨a.toArray⟩] w (Rets fun r w' => r = .bool false ∧ Upd0 w w') := by
  go_enter Try.func80, Try.ntmps80
  go_wp2_with (first | (with_reducible refine wp_serial (by kernel_rfl) (by kernel_rfl) (by (repeat (first | (with_reducible apply NoBad.then) | (with_reducible apply NoBad.inBlock) | (with_reducible exact NoBad.rets))); done) ?_) | fail)
  all_goals go_returns
  all_goals exact ⟨rfl, (by (repeat (first | (with_reducible exact Upd.refl _ _) | (with_reducible assumption) | (with_reducible apply Upd.drew) | (with_reducible apply Upd.alloc) | (refine Upd0.tr ?_ (by with_reducible assumption)) | (refine Upd.setCell ?_ (fun h => absurd h (by first | exact Nat.lt_irrefl _ | (simp only []; omega))) _))); done)⟩
set_option maxRecDepth 100000 in
theorem cmp_string (a b : Bs) (w : World) : Calls Try.prog 72 #[.string ⟨a.toArray⟩, .string ⟨b.toArray⟩] w (Rets fun r w' => r = .int .i64 (cmpS a b) ∧ Upd0 w w') := by
  rcases cmpS_facts a b with ⟨h1, hc⟩ | ⟨rfl, hc, h1⟩ | ⟨h1, h2, hc⟩
  all_goals
    have hch := Lib.hid hc
    clear hc
    go_enter Try.func72, Try.ntmps72
    go_wp2_with (first
      | (go_at_call 80; (with_reducible refine (isNaN_string _ _).use ?_); rintro v w1 ⟨rfl, hu1⟩)
      | (with_reducible refine wp_serial (by kernel_rfl) (by kernel_rfl) (by (repeat (first | (with_reducible apply NoBad.then) | (with_reducible apply NoBad.inBlock) | (with_reducible exact NoBad.rets))); done) ?_) | fail)
    all_goals go_returns
    all_goals exact ⟨by rw [hch.out]; rfl, (by (repeat (first | (with_reducible exact Upd.refl _ _) | (with_reducible assumption) | (with_reducible apply Upd.drew) | (with_reducible apply Upd.alloc) | (refine Upd0.tr ?_ (by with_reducible assumption)) | (refine Upd.setCell ?_ (fun h => absurd h (by first | exact Nat.lt_irrefl _ | (simp only []; omega))) _))); done)⟩
set_option maxRecDepth 100000 in
theorem isNaN_name (a : Bs) (w : World) : Calls Try.prog 71 #[.string ⟨a.toArray⟩] w (Rets fun r w' => r = .bool false ∧ Upd0 w w') := by
  go_enter Try.func71, Try.ntmps71
  go_wp2_with (first | (with_reducible refine wp_serial (by kernel_rfl) (by kernel_rfl) (by (repeat (first | (with_reducible apply NoBad.then) | (with_reducible apply NoBad.inBlock) | (with_reducible exact NoBad.rets))); done) ?_) | fail)
  all_goals go_returns
  all_goals exact ⟨rfl, (by (repeat (first | (with_reducible exact Upd.refl _ _) | (with_reducible assumption) | (with_reducible apply Upd.drew) | (with_reducible apply Upd.alloc) | (refine Upd0.tr ?_ (by with_reducible assumption)) | (refine Upd.setCell ?_ (fun h => absurd h (by first | exact Nat.lt_irrefl _ | (simp only []; omega))) _))); done)⟩
set_option maxRecDepth 100000 in
theorem cmp_name (a b : Bs) (w : World) : Calls Try.prog 51 #[.string ⟨a.toArray⟩, .string ⟨b.toArray⟩] w (Rets fun r w' => r = .int .i64 (cmpS a b) ∧ Upd0 w w') := by
  rcases cmpS_facts a b with ⟨h1, hc⟩ | ⟨rfl, hc, h1⟩ | ⟨h1, h2, hc⟩
  all_goals
    have hch := Lib.hid hc
    clear hc
    go_enter Try.func51, Try.ntmps51
    go_wp2_with (first
      | (go_at_call 71; (with_reducible refine (isNaN_name _ _).use ?_); rintro v w1 ⟨rfl, hu1⟩)
      | (with_reducible refine wp_serial (by kernel_rfl) (by kernel_rfl) (by (repeat (first | (with_reducible apply NoBad.then) | (with_reducible apply NoBad.inBlock) | (with_reducible exact NoBad.rets))); done) ?_) | fail)
    all_goals go_returns
    all_goals exact ⟨by rw [hch.out]; rfl, (by (repeat (first | (with_reducible exact Upd.refl _ _) | (with_reducible assumption) | (with_reducible apply Upd.drew) | (with_reducible apply Upd.alloc) | (refine Upd0.tr ?_ (by with_reducible assumption)) | (refine Upd.setCell ?_ (fun h => absurd h (by first | exact Nat.lt_irrefl _ | (simp only []; omega))) _))); done)⟩
end Go.Proofs.Ytdjleplefbmjbaa
