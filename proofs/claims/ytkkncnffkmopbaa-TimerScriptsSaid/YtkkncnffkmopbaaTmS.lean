/-
  Slices of texts, read; texts compared; the document's Texts.
-/
import Derived.Handy
import Derived.Test.YtkkncnffkmopbaaChecked
import Derived.Test.YtkkncnffkmopbaaStr
import Derived.Test.YtkkncnffkmopbaaOrd
import Derived.Test.YtkkncnffkmopbaaSer3
namespace Go.Proofs.Ytkkncnffkmopbaa
open Go.RowKit
set_option linter.unusedSimpArgs false
set_option linter.unusedVariables false
def strs (l : List Bs) : List Value := l.map fun s => .string ⟨s.toArray⟩
theorem info_str : (Try.prog.info? 9).map (fun i => (i.zero, i.size, i.bytes)) = some (some (.string .empty), 1, 16) := by kernel_rfl
/-- the slice at ao reads as these strings -/
def SR (w : World) (ao : Option Addr) (L : List Bs) : Prop := L = [] ∨ ∃ g o, ao = some ⟨g, o, none⟩ ∧ g < w.heap.size ∧ ∀ (i : Nat) x, L[i]? = some x → w.cell? ⟨g, o + i, none⟩ = some (.string ⟨x.toArray⟩)
theorem SR.some {w : World} {ao : Option Addr} {L : List Bs} (h : SR w ao L) {k : Nat} (hk : k < L.length) : ∃ g o, ao = some ⟨g, o, none⟩ ∧ g < w.heap.size ∧ ∀ (i : Nat) x, L[i]? = some x → w.cell? ⟨g, o + i, none⟩ = some (.string ⟨x.toArray⟩) := by
  rcases h with rfl | h
  · simp at hk
  · exact h
theorem SR.below {w w' : World} {ao : Option Addr} {L : List Bs} (h : SR w ao L) (hb : Below w.heap.size w w') : SR w' ao L := by
  rcases h with rfl | ⟨g, o, h1, h2, h3⟩
  · exact .inl rfl
  · exact .inr ⟨g, o, h1, Nat.lt_of_lt_of_le h2 hb.size, fun i x hx => by rw [hb.cell (p := ⟨g, o + i, none⟩) h2]; exact h3 i x hx⟩
theorem SR.up {w w' : World} {ao : Option Addr} {L : List Bs} (h : SR w ao L) (hb : Upd0 w w') : SR w' ao L := h.below (hb.below (Nat.le_refl _) (fun _ h => h.elim))
theorem ba_loop (bs : ByteArray) : ∀ (n i : Nat) (r : List UInt8), bs.size - i = n → ByteArray.toList.loop bs i r = r.reverse ++ bs.data.toList.drop i := by
  intro n
  induction n with
  | zero =>
    intro i r h
    rw [ByteArray.toList.loop]
    have h' : ¬ i < bs.size := by omega
    rw [if_neg h', List.drop_of_length_le (by simp only [Array.length_toList]; show bs.size ≤ i; omega)]; simp
  | succ n ih =>
    intro i r h
    rw [ByteArray.toList.loop]
    have h' : i < bs.size := by omega
    have h2 : i < bs.data.toList.length := by simp only [Array.length_toList]; exact h'
    rw [if_pos h', ih (i + 1) _ (by omega), List.drop_eq_getElem_cons h2]
    have e : bs.get! i = bs.data.toList[i] := by
      show bs.data[i]! = _
      rw [getElem!_pos bs.data i (by simpa using h2)]; simp
    rw [e]; simp
theorem ba_toList (l : Bs) : (⟨l.toArray⟩ : ByteArray).toList = l := by
  rw [ByteArray.toList, ba_loop _ _ 0 [] rfl]; simp
attribute [go_sem] ba_toList
theorem cmpS_facts (a b : Bs) : (Op.bytesLess a b = true ∧ cmpS a b = -1) ∨ (a = b ∧ cmpS a b = 0 ∧ Op.bytesLess a b = false) ∨ (Op.bytesLess a b = false ∧ (a == b) = false ∧ cmpS a b = 1) := by
  have h1 := less_cmp a b
  have h2 := less_cmp b a
  have hn := cmpS_ok.neg a b
  rcases cmpS_ok.one a b with h | h | h
  · left; rw [h1, h]; exact ⟨rfl, rfl⟩
  · right; left
    refine ⟨(cmpS_ok.zero a b).1 h, h, ?_⟩
    rw [h1, h]; rfl
  · right; right
    refine ⟨by rw [h1, h]; rfl, ?_, h⟩
    rw [beq_eq_false_iff_ne]
    rintro rfl
    rw [cmpS_ok.refl] at h; cases h
theorem beq_ne {L M : List Bs} {k : Nat} {x y : Bs} (hx : L[k]? = some x) (hy : M[k]? = some y) (h : x ≠ y) : (L == M) = false := by
  rw [beq_eq_false_iff_ne]
  rintro rfl
  rw [hx] at hy; cases hy; exact h rfl
set_option maxRecDepth 100000 in
theorem rtexts2_w (ao bo : Option Addr) (ca cb : Nat) (L M : List Bs) (w : World) (hL : SR w ao L) (hM : SR w bo M) (h1 : L.length ≤ 1000000) (h2 : M.length ≤ 1000000) :
    Calls Try.prog 15 #[.slice ao L.length ca, .slice bo M.length cb] w (Rets fun r w' => r = .bool (L == M) ∧ Upd0 w w') := by
  by_cases hlen : L.length = M.length
  · have hle1 : L.length ≤ M.length := by omega
    have hle2 : M.length ≤ L.length := by omega
    have hnn : ((L.length : Int) != (M.length : Int)) = false := by rw [bne_eq_false_iff_eq]; omega
    clear hlen
    go_enter Try.func15, Try.ntmps15
    go_wp2_with (first | (with_reducible refine wp_serial (by kernel_rfl) (by kernel_rfl) (by (repeat (first | (with_reducible apply NoBad.then) | (with_reducible apply NoBad.inBlock) | (with_reducible apply NoBad.jump) | (with_reducible exact NoBad.rets))); done) ?_) | fail)
    go_loopw [5] (fun i wr => ∃ k : Nat, k ≤ L.length ∧ i = .int .i64 k ∧ Upd0 w wr ∧ Hid (L.take k = M.take k)) (fun i _ => L.length - (intOf i).toNat)
    case atStart => exact ⟨0, Nat.zero_le _, rfl, Upd.refl _ _, Lib.hid rfl⟩
    case round =>
      obtain ⟨k, hk, rfl, hu, hl⟩ := hrel
      by_cases hlt : k < L.length
      · obtain ⟨g, o, rfl, hg, hcs⟩ := (hL.up hu).some hlt
        obtain ⟨x, hx⟩ : ∃ x, L[k]? = some x := ⟨L[k], List.getElem?_eq_getElem hlt⟩
        have hc := hcs k x hx
        clear hcs
        obtain ⟨g2, o2, rfl, hg2, hcs2⟩ := (hM.up hu).some (show k < M.length by omega)
        obtain ⟨y, hy⟩ : ∃ y, M[k]? = some y := ⟨M[k], List.getElem?_eq_getElem (by omega)⟩
        have hc2 := hcs2 k y hy
        clear hcs2
        by_cases h0 : x = y
        · subst h0
          have hst := Lib.hid (show L.take (k + 1) = M.take (k + 1) by
            rw [List.take_succ_eq_append_getElem hlt, List.take_succ_eq_append_getElem (show k < M.length by omega), hl.out, (List.getElem?_eq_some_iff.1 hx).2, (List.getElem?_eq_some_iff.1 hy).2])
          clear hx hy
          go_wp2_with (first | (with_reducible refine wp_serial (by kernel_rfl) (by kernel_rfl) (by (repeat (first | (with_reducible apply NoBad.then) | (with_reducible apply NoBad.inBlock) | (with_reducible apply NoBad.jump) | (with_reducible exact NoBad.rets))); done) ?_) | fail)
          go_roundw
          case rel => exact ⟨k + 1, by omega, by go_num, (by (repeat (first | (with_reducible exact Upd.refl _ _) | (with_reducible assumption) | (with_reducible apply Upd.drew) | (with_reducible apply Upd.alloc) | (refine Upd0.tr ?_ (by with_reducible assumption)) | (refine Upd.setCell ?_ (fun h => absurd h (by first | exact Nat.lt_irrefl _ | (simp only []; omega))) _))); done), Lib.hid hst.out⟩
          case measure => simp [intOf]; omega
        · have hst := Lib.hid (beq_ne hx hy h0)
          have hbq : (x == y) = false := beq_eq_false_iff_ne.2 h0
          clear hx hy
          go_wp2_with (first | (with_reducible refine wp_serial (by kernel_rfl) (by kernel_rfl) (by (repeat (first | (with_reducible apply NoBad.then) | (with_reducible apply NoBad.inBlock) | (with_reducible apply NoBad.jump) | (with_reducible exact NoBad.rets))); done) ?_) | fail)
          all_goals go_returns
          all_goals exact ⟨by rw [hst.out]; rfl, (by (repeat (first | (with_reducible exact Upd.refl _ _) | (with_reducible assumption) | (with_reducible apply Upd.drew) | (with_reducible apply Upd.alloc) | (refine Upd0.tr ?_ (by with_reducible assumption)) | (refine Upd.setCell ?_ (fun h => absurd h (by first | exact Nat.lt_irrefl _ | (simp only []; omega))) _))); done)⟩
      · have hst := Lib.hid (show (L == M) = true by
          rw [beq_iff_eq]
          have := hl.out
          rwa [List.take_of_length_le (by omega), List.take_of_length_le (by omega)] at this)
        go_wp2_with (first | (with_reducible refine wp_serial (by kernel_rfl) (by kernel_rfl) (by (repeat (first | (with_reducible apply NoBad.then) | (with_reducible apply NoBad.inBlock) | (with_reducible apply NoBad.jump) | (with_reducible exact NoBad.rets))); done) ?_) | fail)
        all_goals go_returns
        all_goals exact ⟨by rw [hst.out]; rfl, (by (repeat (first | (with_reducible exact Upd.refl _ _) | (with_reducible assumption) | (with_reducible apply Upd.drew) | (with_reducible apply Upd.alloc) | (refine Upd0.tr ?_ (by with_reducible assumption)) | (refine Upd.setCell ?_ (fun h => absurd h (by first | exact Nat.lt_irrefl _ | (simp only []; omega))) _))); done)⟩
  · have hst := Lib.hid (show (L == M) = false by rw [beq_eq_false_iff_ne]; rintro rfl; exact hlen rfl)
    have hnn : ((L.length : Int) != (M.length : Int)) = true := by rw [bne_iff_ne]; omega
    clear hlen
    go_enter Try.func15, Try.ntmps15
    go_wp2_with (first | (with_reducible refine wp_serial (by kernel_rfl) (by kernel_rfl) (by (repeat (first | (with_reducible apply NoBad.then) | (with_reducible apply NoBad.inBlock) | (with_reducible apply NoBad.jump) | (with_reducible exact NoBad.rets))); done) ?_) | fail)
    all_goals go_returns
    all_goals exact ⟨by rw [hst.out]; rfl, (by (repeat (first | (with_reducible exact Upd.refl _ _) | (with_reducible assumption) | (with_reducible apply Upd.drew) | (with_reducible apply Upd.alloc) | (refine Upd0.tr ?_ (by with_reducible assumption)) | (refine Upd.setCell ?_ (fun h => absurd h (by first | exact Nat.lt_irrefl _ | (simp only []; omega))) _))); done)⟩
end Go.Proofs.Ytkkncnffkmopbaa
