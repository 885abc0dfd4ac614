/-
  Lists of texts: slices.Compare, slices.Equal, slices.Reverse.
-/
import Derived.Test.YtdjleplefbmjbaaNmA
namespace Go.Proofs.Ytdjleplefbmjbaa
open Go.RowKit
set_option linter.unusedSimpArgs false
set_option linter.unusedVariables false
theorem drop_at {α : Type} {L : List α} {k : Nat} {x : α} (h : L[k]? = some x) : L.drop k = x :: L.drop (k + 1) := by
  have hk := (List.getElem?_eq_some_iff.1 h).1
  rw [List.drop_eq_getElem_cons hk, (List.getElem?_eq_some_iff.1 h).2]
set_option maxRecDepth 100000 in
theorem scmp_w (ao bo : Option Addr) (ca cb : Nat) (L M : List Bs) (w : World) (hL : SR w ao L) (hM : SR w bo M) (h1 : L.length ≤ 1000000) (h2 : M.length ≤ 1000000) :
    Calls Try.prog 52 #[.slice ao L.length ca, .slice bo M.length cb] w (Rets fun r w' => r = .int .i64 (lexC cmpS L M) ∧ Upd0 w w') := by
  go_enter Try.func52, Try.ntmps52
  go_wp2_with (first | (with_reducible refine wp_serial (by kernel_rfl) (by kernel_rfl) (by (repeat (first | (with_reducible apply NoBad.then) | (with_reducible apply NoBad.inBlock) | (with_reducible exact NoBad.rets))); done) ?_) | fail)
  go_loopw [11] (fun i wr => ∃ k : Nat, k ≤ L.length ∧ i = .int .i64 k ∧ Upd0 w wr ∧ Hid (lexC cmpS L M = lexC cmpS (L.drop k) (M.drop k))) (fun i _ => L.length - (intOf i).toNat)
  case atStart => exact ⟨0, Nat.zero_le _, rfl, Upd.refl _ _, Lib.hid rfl⟩
  case round =>
    obtain ⟨k, hk, rfl, hu, hl⟩ := hrel
    by_cases hlt : k < L.length
    · obtain ⟨g, o, rfl, hg, hcs⟩ := (hL.up hu).some hlt
      obtain ⟨x, hx⟩ : ∃ x, L[k]? = some x := ⟨L[k], List.getElem?_eq_getElem hlt⟩
      have hc := hcs k x hx
      clear hcs
      by_cases hlm : k < M.length
      · obtain ⟨g2, o2, rfl, hg2, hcs2⟩ := (hM.up hu).some hlm
        obtain ⟨y, hy⟩ : ∃ y, M[k]? = some y := ⟨M[k], List.getElem?_eq_getElem hlm⟩
        have hc2 := hcs2 k y hy
        clear hcs2
        have hst := Lib.hid (show lexC cmpS L M = if cmpS x y = 0 then lexC cmpS (L.drop (k + 1)) (M.drop (k + 1)) else cmpS x y by rw [hl.out, drop_at hx, drop_at hy]; rfl)
        clear hx hy
        by_cases h0 : cmpS x y = 0
        · have h0h := Lib.hid h0
          clear h0
          go_wp2_with (first
            | (go_at_call 72; (with_reducible refine (cmp_string _ _ _).use ?_); rintro v w2 ⟨rfl, hu2⟩; rw [h0h.out])
            | (with_reducible refine wp_serial (by kernel_rfl) (by kernel_rfl) (by (repeat (first | (with_reducible apply NoBad.then) | (with_reducible apply NoBad.inBlock) | (with_reducible exact NoBad.rets))); done) ?_) | fail)
          go_roundw
          case rel => exact ⟨k + 1, by omega, by go_num, (by (repeat (first | (with_reducible exact Upd.refl _ _) | (with_reducible assumption) | (with_reducible apply Upd.drew) | (with_reducible apply Upd.alloc) | (refine Upd0.tr ?_ (by with_reducible assumption)) | (refine Upd.setCell ?_ (fun h => absurd h (by first | exact Nat.lt_irrefl _ | (simp only []; omega))) _))); done), Lib.hid (by rw [hst.out, if_pos h0h.out])⟩
          case measure => simp [intOf]; omega
        · have hne : (cmpS x y != 0) = true := by simpa using h0
          have h0h := Lib.hid h0
          clear h0
          go_wp2_with (first
            | (go_at_call 72; (with_reducible refine (cmp_string _ _ _).use ?_); rintro v w2 ⟨rfl, hu2⟩)
            | (with_reducible refine wp_serial (by kernel_rfl) (by kernel_rfl) (by (repeat (first | (with_reducible apply NoBad.then) | (with_reducible apply NoBad.inBlock) | (with_reducible exact NoBad.rets))); done) ?_) | fail)
          all_goals go_returns
          all_goals exact ⟨by rw [hst.out, if_neg h0h.out]; rfl, (by (repeat (first | (with_reducible exact Upd.refl _ _) | (with_reducible assumption) | (with_reducible apply Upd.drew) | (with_reducible apply Upd.alloc) | (refine Upd0.tr ?_ (by with_reducible assumption)) | (refine Upd.setCell ?_ (fun h => absurd h (by first | exact Nat.lt_irrefl _ | (simp only []; omega))) _))); done)⟩
      · have hst := Lib.hid (show lexC cmpS L M = 1 by rw [hl.out, drop_at hx, show M.drop k = [] from List.drop_of_length_le (by omega)]; rfl)
        clear hx
        go_wp2_with (first | (with_reducible refine wp_serial (by kernel_rfl) (by kernel_rfl) (by (repeat (first | (with_reducible apply NoBad.then) | (with_reducible apply NoBad.inBlock) | (with_reducible exact NoBad.rets))); done) ?_) | fail)
        all_goals go_returns
        all_goals exact ⟨by rw [hst.out]; rfl, (by (repeat (first | (with_reducible exact Upd.refl _ _) | (with_reducible assumption) | (with_reducible apply Upd.drew) | (with_reducible apply Upd.alloc) | (refine Upd0.tr ?_ (by with_reducible assumption)) | (refine Upd.setCell ?_ (fun h => absurd h (by first | exact Nat.lt_irrefl _ | (simp only []; omega))) _))); done)⟩
    · by_cases hlm : L.length < M.length
      · have hst := Lib.hid (show lexC cmpS L M = -1 by
          obtain ⟨y, hy⟩ : ∃ y, M[k]? = some y := ⟨M[k], List.getElem?_eq_getElem (by omega)⟩
          rw [hl.out, drop_at hy, show L.drop k = [] from List.drop_of_length_le (by omega)]; rfl)
        go_wp2_with (first | (with_reducible refine wp_serial (by kernel_rfl) (by kernel_rfl) (by (repeat (first | (with_reducible apply NoBad.then) | (with_reducible apply NoBad.inBlock) | (with_reducible exact NoBad.rets))); done) ?_) | fail)
        all_goals go_returns
        all_goals exact ⟨by rw [hst.out]; rfl, (by (repeat (first | (with_reducible exact Upd.refl _ _) | (with_reducible assumption) | (with_reducible apply Upd.drew) | (with_reducible apply Upd.alloc) | (refine Upd0.tr ?_ (by with_reducible assumption)) | (refine Upd.setCell ?_ (fun h => absurd h (by first | exact Nat.lt_irrefl _ | (simp only []; omega))) _))); done)⟩
      · have hst := Lib.hid (show lexC cmpS L M = 0 by rw [hl.out, List.drop_of_length_le (by omega), List.drop_of_length_le (by omega)]; rfl)
        go_wp2_with (first | (with_reducible refine wp_serial (by kernel_rfl) (by kernel_rfl) (by (repeat (first | (with_reducible apply NoBad.then) | (with_reducible apply NoBad.inBlock) | (with_reducible exact NoBad.rets))); done) ?_) | fail)
        all_goals go_returns
        all_goals exact ⟨by rw [hst.out]; rfl, (by (repeat (first | (with_reducible exact Upd.refl _ _) | (with_reducible assumption) | (with_reducible apply Upd.drew) | (with_reducible apply Upd.alloc) | (refine Upd0.tr ?_ (by with_reducible assumption)) | (refine Upd.setCell ?_ (fun h => absurd h (by first | exact Nat.lt_irrefl _ | (simp only []; omega))) _))); done)⟩
theorem beq_ne {L M : List Bs} {k : Nat} {x y : Bs} (hx : L[k]? = some x) (hy : M[k]? = some y) (h : x ≠ y) : (L == M) = false := by
  rw [beq_eq_false_iff_ne]
  rintro rfl
  rw [hx] at hy; cases hy; exact h rfl
set_option maxRecDepth 100000 in
theorem seq_w (ao bo : Option Addr) (ca cb : Nat) (L M : List Bs) (w : World) (hL : SR w ao L) (hM : SR w bo M) (h1 : L.length ≤ 1000000) (h2 : M.length ≤ 1000000) :
    Calls Try.prog 53 #[.slice ao L.length ca, .slice bo M.length cb] w (Rets fun r w' => r = .bool (L == M) ∧ Upd0 w w') := by
  by_cases hlen : L.length = M.length
  · have hle1 : L.length ≤ M.length := by omega
    have hle2 : M.length ≤ L.length := by omega
    have hnn : ((L.length : Int) != (M.length : Int)) = false := by rw [bne_eq_false_iff_eq]; omega
    clear hlen
    go_enter Try.func53, Try.ntmps53
    go_wp2_with (first | (with_reducible refine wp_serial (by kernel_rfl) (by kernel_rfl) (by (repeat (first | (with_reducible apply NoBad.then) | (with_reducible apply NoBad.inBlock) | (with_reducible exact NoBad.rets))); done) ?_) | fail)
    go_loopw [13] (fun i wr => ∃ k : Nat, k ≤ L.length ∧ i = .int .i64 k ∧ Upd0 w wr ∧ Hid (L.take k = M.take k)) (fun i _ => L.length - (intOf i).toNat)
    case atStart => exact ⟨0, Nat.zero_le _, rfl, Upd.refl _ _, Lib.hid rfl⟩
    case round =>
      obtain ⟨k, hk, rfl, hu, hl⟩ := hrel
      by_cases hlt : k < L.length
      · obtain ⟨g, o, rfl, hg, hcs⟩ := (hL.up hu).some hlt
        obtain ⟨x, hx⟩ : ∃ x, L[k]? = some x := ⟨L[k], List.getElem?_eq_getElem hlt⟩
        have hc := hcs k x hx
        clear hcs
        obtain ⟨g2, o2, rfl, hg2, hcs2⟩ := (hM.up hu).some (show k < M.length by omega)
        obtain ⟨y, hy⟩ : ∃ y, M[k]? = some y := ⟨M[k], List.getElem?_eq_getElem (by omega)⟩
        have hc2 := hcs2 k y hy
        clear hcs2
        by_cases h0 : x = y
        · subst h0
          have hst := Lib.hid (show L.take (k + 1) = M.take (k + 1) by
            rw [List.take_succ_eq_append_getElem hlt, List.take_succ_eq_append_getElem (show k < M.length by omega), hl.out, (List.getElem?_eq_some_iff.1 hx).2, (List.getElem?_eq_some_iff.1 hy).2])
          clear hx hy
          go_wp2_with (first | (with_reducible refine wp_serial (by kernel_rfl) (by kernel_rfl) (by (repeat (first | (with_reducible apply NoBad.then) | (with_reducible apply NoBad.inBlock) | (with_reducible exact NoBad.rets))); done) ?_) | fail)
          go_roundw
          case rel => exact ⟨k + 1, by omega, by go_num, (by (repeat (first | (with_reducible exact Upd.refl _ _) | (with_reducible assumption) | (with_reducible apply Upd.drew) | (with_reducible apply Upd.alloc) | (refine Upd0.tr ?_ (by with_reducible assumption)) | (refine Upd.setCell ?_ (fun h => absurd h (by first | exact Nat.lt_irrefl _ | (simp only []; omega))) _))); done), Lib.hid hst.out⟩
          case measure => simp [intOf]; omega
        · have hst := Lib.hid (beq_ne hx hy h0)
          have hbq : (x == y) = false := beq_eq_false_iff_ne.2 h0
          clear hx hy
          go_wp2_with (first | (with_reducible refine wp_serial (by kernel_rfl) (by kernel_rfl) (by (repeat (first | (with_reducible apply NoBad.then) | (with_reducible apply NoBad.inBlock) | (with_reducible exact NoBad.rets))); done) ?_) | fail)
          all_goals go_returns
          all_goals exact ⟨by rw [hst.out]; rfl, (by (repeat (first | (with_reducible exact Upd.refl _ _) | (with_reducible assumption) | (with_reducible apply Upd.drew) | (with_reducible apply Upd.alloc) | (refine Upd0.tr ?_ (by with_reducible assumption)) | (refine Upd.setCell ?_ (fun h => absurd h (by first | exact Nat.lt_irrefl _ | (simp only []; omega))) _))); done)⟩
      · have hst := Lib.hid (show (L == M) = true by
          rw [beq_iff_eq]
          have := hl.out
          rwa [List.take_of_length_le (by omega), List.take_of_length_le (by omega)] at this)
        go_wp2_with (first | (with_reducible refine wp_serial (by kernel_rfl) (by kernel_rfl) (by (repeat (first | (with_reducible apply NoBad.then) | (with_reducible apply NoBad.inBlock) | (with_reducible exact NoBad.rets))); done) ?_) | fail)
        all_goals go_returns
        all_goals exact ⟨by rw [hst.out]; rfl, (by (repeat (first | (with_reducible exact Upd.refl _ _) | (with_reducible assumption) | (with_reducible apply Upd.drew) | (with_reducible apply Upd.alloc) | (refine Upd0.tr ?_ (by with_reducible assumption)) | (refine Upd.setCell ?_ (fun h => absurd h (by first | exact Nat.lt_irrefl _ | (simp only []; omega))) _))); done)⟩
  · have hst := Lib.hid (show (L == M) = false by rw [beq_eq_false_iff_ne]; rintro rfl; exact hlen rfl)
    have hnn : ((L.length : Int) != (M.length : Int)) = true := by rw [bne_iff_ne]; omega
    clear hlen
    go_enter Try.func53, Try.ntmps53
    go_wp2_with (first | (with_reducible refine wp_serial (by kernel_rfl) (by kernel_rfl) (by (repeat (first | (with_reducible apply NoBad.then) | (with_reducible apply NoBad.inBlock) | (with_reducible exact NoBad.rets))); done) ?_) | fail)
    all_goals go_returns
    all_goals exact ⟨by rw [hst.out]; rfl, (by (repeat (first | (with_reducible exact Upd.refl _ _) | (with_reducible assumption) | (with_reducible apply Upd.drew) | (with_reducible apply Upd.alloc) | (refine Upd0.tr ?_ (by with_reducible assumption)) | (refine Upd.setCell ?_ (fun h => absurd h (by first | exact Nat.lt_irrefl _ | (simp only []; omega))) _))); done)⟩
/-- half reversed: the first k and the last k have changed places -/
def RevI (L : List Bs) (k : Nat) (X : List Bs) : Prop := X.length = L.length ∧ ∀ i, i < L.length → X[i]? = if i < k ∨ L.length - k ≤ i then L[L.length - 1 - i]? else L[i]?
theorem RevI.start (L : List Bs) : RevI L 0 L := ⟨rfl, fun i h => by rw [if_neg (by omega)]⟩
theorem RevI.step {L X : List Bs} {k j : Nat} {x y : Bs} (h : RevI L k X) (hj : j + k + 1 = L.length) (hk : k < j) (hx : X[k]? = some x) (hy : X[j]? = some y) : RevI L (k + 1) ((X.set k y).set j x) := by
  obtain ⟨h1, h2⟩ := h
  refine ⟨by simp [h1], fun i hi => ?_⟩
  have ek := h2 k (by omega)
  have ej := h2 j (by omega)
  rw [if_neg (by omega), hx] at ek
  rw [if_neg (by omega), hy] at ej
  by_cases h3 : i = j
  · subst h3
    rw [List.getElem?_set_self (by simp; omega), if_pos (by omega), ek]; congr 1; omega
  · rw [List.getElem?_set_ne (by omega)]
    by_cases h4 : i = k
    · subst h4
      rw [List.getElem?_set_self (by omega), if_pos (by omega), ej]; congr 1; omega
    · rw [List.getElem?_set_ne (by omega), h2 i hi]
      by_cases h5 : i < k ∨ L.length - k ≤ i
      · rw [if_pos h5, if_pos (by omega)]
      · rw [if_neg h5, if_neg (by omega)]
theorem RevI.stop {L X : List Bs} {k j : Nat} (h : RevI L k X) (hj : j + k + 1 = L.length) (hk : j ≤ k) : X = L.reverse := by
  obtain ⟨h1, h2⟩ := h
  apply List.ext_getElem?
  intro i
  by_cases hi : i < L.length
  · rw [h2 i hi, List.getElem?_reverse hi]
    split
    · rfl
    · congr 1; omega
  · rw [List.getElem?_eq_none (by omega), List.getElem?_eq_none (by simp; omega)]
set_option maxRecDepth 100000 in
theorem rev_w (B : Nat) (ao : Option Addr) (cap : Nat) (L : List Bs) (w : World) (ho : w.ownsRow B 9 1 (.slice ao L.length cap) L.length (strs L)) (hm : L.length ≤ 1000000) :
    Calls Try.prog 70 #[.slice ao L.length cap] w (Rets fun r w' => r = .tuple #[] ∧ w'.ownsRow B 9 1 (.slice ao L.length cap) L.length (strs L.reverse) ∧ Upd (fun k => (Value.slice ao L.length cap).ownBlock = some k) w w') := by
  by_cases hn : L.length = 0
  · obtain rfl : L = [] := List.eq_nil_of_length_eq_zero hn
    have hoh := Lib.hid ho
    clear ho hm hn
    go_enter Try.func70, Try.ntmps70
    go_wp2_with (first | (with_reducible refine wp_serial (by kernel_rfl) (by kernel_rfl) (by (repeat (first | (with_reducible apply NoBad.then) | (with_reducible apply NoBad.inBlock) | (with_reducible exact NoBad.rets))); done) ?_) | fail)
    go_loopw [2, 3] (fun i j wr => i = .int .i64 0 ∧ j = .int .i64 (-1) ∧ Hid (wr = w)) (fun _ _ _ => 0)
    case atStart => exact ⟨rfl, rfl, Lib.hid rfl⟩
    case round =>
      obtain ⟨rfl, rfl, hw⟩ := hrel
      go_wp2_with (first | (with_reducible refine wp_serial (by kernel_rfl) (by kernel_rfl) (by (repeat (first | (with_reducible apply NoBad.then) | (with_reducible apply NoBad.inBlock) | (with_reducible exact NoBad.rets))); done) ?_) | fail)
      all_goals go_end0
      all_goals exact ⟨rfl, by rw [hw.out]; exact hoh.out, by rw [hw.out]; exact Upd.refl _ _⟩
  · obtain ⟨g, rfl⟩ := ownsRow_some ho (by omega)
    have hgB := (ho.lt g rfl).1
    obtain ⟨m, hm1⟩ : ∃ m, L.length = m + 1 := ⟨L.length - 1, by omega⟩
    have hm1h := Lib.hid hm1
    rw [hm1] at ho hm ⊢
    have hoh := Lib.hid ho
    clear ho hm1 hn
    go_enter Try.func70, Try.ntmps70
    go_wp2_with (first | (with_reducible refine wp_serial (by kernel_rfl) (by kernel_rfl) (by (repeat (first | (with_reducible apply NoBad.then) | (with_reducible apply NoBad.inBlock) | (with_reducible exact NoBad.rets))); done) ?_) | fail)
    go_loopw [2, 3] (fun i j wr => ∃ (k l : Nat) (X : List Bs), i = .int .i64 k ∧ j = .int .i64 l ∧ k + l = m ∧ Hid (RevI L k X) ∧ Hid (wr.ownsRow B 9 1 (.slice (some ⟨g, 0, none⟩) (m + 1) cap) (m + 1) (strs X)) ∧ Upd (fun k => k = g) w wr) (fun i _ _ => m + 1 - (intOf i).toNat)
    case atStart => exact ⟨0, m, L, rfl, rfl, by omega, Lib.hid (RevI.start L), hoh, Upd.refl _ _⟩
    case round =>
      obtain ⟨k, l, X, rfl, rfl, hkl, hX, ho, hu⟩ := hrel
      by_cases hlt : k < l
      · obtain ⟨x, hx⟩ : ∃ x, X[k]? = some x := ⟨X[k]'(by have := hX.out.1; have := hm1h.out; omega), List.getElem?_eq_getElem _⟩
        obtain ⟨y, hy⟩ : ∃ y, X[l]? = some y := ⟨X[l]'(by have := hX.out.1; have := hm1h.out; omega), List.getElem?_eq_getElem _⟩
        have c1 := ownsRow_cell ho.out rfl (strs_get hx)
        have c2 := ownsRow_cell ho.out rfl (strs_get hy)
        obtain ⟨cur, g1, g2, g3, g4, g5⟩ := ownsRow_blk ho.out
        have f1 : wr.frozen? ⟨g, k, none⟩ = false := blk_frz g1 k
        have f2 : wr.frozen? ⟨g, l, none⟩ = false := blk_frz g1 l
        have hst := Lib.hid (hX.out.step (j := l) (by have := hm1h.out; omega) hlt hx hy)
        have n1 : ¬ k = l := by omega
        have n2 : ¬ l = k := by omega
        clear hx hy g1 g2 g3 g4 g5
        go_wp2_with (first | (with_reducible refine wp_serial (by kernel_rfl) (by kernel_rfl) (by (repeat (first | (with_reducible apply NoBad.then) | (with_reducible apply NoBad.inBlock) | (with_reducible exact NoBad.rets))); done) ?_) | fail)
        go_roundw
        case rel => exact ⟨k + 1, l - 1, (X.set k y).set l x, by go_num, congrArg (Value.int IntKind.i64) (by omega), by omega, hst, Lib.hid (by
          have h3 := ownsRow_set1 (ownsRow_set1 (ownsRow_mono ho.out (fun _ _ => Nat.zero_le _)) k (.string ⟨y.toArray⟩)) l (.string ⟨x.toArray⟩)
          rw [strs_set, strs_set] at h3
          exact ownsRow_mono h3 (fun g' hg' => by cases hg'; exact hgB)), (Upd.setCell (Upd.setCell hu (fun _ => rfl) _) (fun _ => rfl) _).drew⟩
        case measure => simp [intOf]; omega
      · have hfin := Lib.hid (hX.out.stop (j := l) (by have := hm1h.out; omega) (by omega))
        go_wp2_with (first | (with_reducible refine wp_serial (by kernel_rfl) (by kernel_rfl) (by (repeat (first | (with_reducible apply NoBad.then) | (with_reducible apply NoBad.inBlock) | (with_reducible exact NoBad.rets))); done) ?_) | fail)
        all_goals go_end0
        all_goals exact ⟨rfl, by rw [← hfin.out]; exact ho.out, Upd.mono hu (fun n _ hn => by rw [hn]; rfl)⟩
end Go.Proofs.Ytdjleplefbmjbaa
