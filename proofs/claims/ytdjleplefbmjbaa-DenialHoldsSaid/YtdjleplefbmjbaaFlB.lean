/-
  The name of labels: the program's Join.
-/
import Derived.Test.YtdjleplefbmjbaaFlA
import Derived.Test.YtdjleplefbmjbaaBld
namespace Go.Proofs.Ytdjleplefbmjbaa
open Go.RowKit
set_option linter.unusedSimpArgs false
set_option linter.unusedVariables false
/-- the slice at ao reads as these strings -/
def SR (w : World) (ao : Option Addr) (L : List Bs) : Prop := L = [] ∨ ∃ g o, ao = some ⟨g, o, none⟩ ∧ g < w.heap.size ∧ ∀ (i : Nat) x, L[i]? = some x → w.cell? ⟨g, o + i, none⟩ = some (.string ⟨x.toArray⟩)
theorem SR.some {w : World} {ao : Option Addr} {L : List Bs} (h : SR w ao L) {k : Nat} (hk : k < L.length) : ∃ g o, ao = some ⟨g, o, none⟩ ∧ g < w.heap.size ∧ ∀ (i : Nat) x, L[i]? = some x → w.cell? ⟨g, o + i, none⟩ = some (.string ⟨x.toArray⟩) := by
  rcases h with rfl | h
  · simp at hk
  · exact h
theorem SR.below {w w' : World} {ao : Option Addr} {L : List Bs} (h : SR w ao L) (hb : Below w.heap.size w w') : SR w' ao L := by
  rcases h with rfl | ⟨g, o, h1, h2, h3⟩
  · exact .inl rfl
  · exact .inr ⟨g, o, h1, Nat.lt_of_lt_of_le h2 hb.size, fun i x hx => by rw [hb.cell (p := ⟨g, o + i, none⟩) h2]; exact h3 i x hx⟩
theorem SR.up {w w' : World} {ao : Option Addr} {L : List Bs} (h : SR w ao L) (hb : Upd0 w w') : SR w' ao L := h.below (hb.below (Nat.le_refl _) (fun _ h => h.elim))
theorem bldByteN_w (B b : Nat) (l : Bs) (n : Nat) (hn : n < 256) (w : World) (h : Bld B b l w) (hlen : l.length ≤ 1000000) (hBw : B ≤ w.heap.size) :
    Calls Try.prog 45 #[.pointer (some ⟨b, 0, none⟩), .int .u8 n] w (Rets fun r w' => r = .nilIface ∧ Bld B b (l ++ [UInt8.ofNat n]) w' ∧ Below B w w') := by
  have := bldByte_w B b l (UInt8.ofNat n) w h hlen hBw
  rw [UInt8.toNat_ofNat'] at this
  have e : n % 2 ^ 8 = n := by omega
  rw [e] at this
  exact this
theorem jn_pre (L : List Bs) (k : Nat) : (jn (L.take k)).length ≤ (jn L).length := by
  conv => rhs; rw [← List.take_append_drop k L, jn_app]
  simp
theorem jnB_no {L : List Bs} {k : Nat} {x : Bs} (hx : L[k]? = some x) (h : lblOk x = false) : jnS L = [] ∧ jnC L = 1 := by
  have : jnB L = false := by
    cases hb : jnB L
    · rfl
    · exfalso
      simp only [jnB, Bool.and_eq_true] at hb
      have := List.all_eq_true.1 hb.1 x (List.mem_of_getElem? hx)
      rw [h] at this; cases this
  rw [jnS, jnC, this]; exact ⟨rfl, rfl⟩
theorem jnB_long {L : List Bs} (h : 254 < (jn L).length) : jnS L = [] ∧ jnC L = 1 := by
  have : jnB L = false := by rw [jnB, decide_eq_false (by omega), Bool.and_false]
  rw [jnS, jnC, this]; exact ⟨rfl, rfl⟩
theorem jnB_yes {L : List Bs} (h : L.all lblOk = true) (h2 : (jn L).length ≤ 254) : jnS L = jn L ∧ jnC L = 0 := by
  have : jnB L = true := by rw [jnB, h, decide_eq_true h2]; rfl
  rw [jnS, jnC, this]; exact ⟨rfl, rfl⟩
theorem all_snoc {L : List Bs} {k : Nat} {x : Bs} (h : (L.take k).all lblOk = true) (hx : L[k]? = some x) (ho : lblOk x = true) : (L.take (k + 1)).all lblOk = true ∧ jn (L.take (k + 1)) = jn (L.take k) ++ [UInt8.ofNat x.length] ++ x := by
  have hk : k < L.length := (List.getElem?_eq_some_iff.1 hx).1
  have e : L.take (k + 1) = L.take k ++ [x] := by rw [List.take_succ_eq_append_getElem hk]; congr 2; exact (List.getElem?_eq_some_iff.1 hx).2
  rw [e, List.all_append, h, jn_snoc]
  exact ⟨by simp [ho], by simp⟩
set_option maxRecDepth 100000 in
set_option maxHeartbeats 1000000 in
theorem join_w (ao : Option Addr) (cap : Nat) (L : List Bs) (w : World) (hS : SR w ao L) (hm : L.length ≤ 1000000) : Calls Try.prog 32 #[.slice ao L.length cap] w (Rets fun r w' => r = .tuple #[.string ⟨(jnS L).toArray⟩, .int .i64 (jnC L)] ∧ Upd0 w w') := by
  go_enter Try.func32, Try.ntmps32
  go_wp2_with (first | (with_reducible refine wp_serial (by kernel_rfl) (by kernel_rfl) (by (repeat (first | (with_reducible apply NoBad.then) | (with_reducible apply NoBad.inBlock) | (with_reducible exact NoBad.rets))); done) ?_) | fail)
  go_loopw [9] (fun i wr => ∃ k : Nat, k ≤ L.length ∧ i = .int .i64 k ∧ Hid (Bld w.heap.size w.heap.size (jn (L.take k)) wr ∧ (L.take k).all lblOk = true) ∧ Below w.heap.size w wr ∧ (jn (L.take k)).length ≤ 318) (fun i _ => L.length - (intOf i).toNat)
  case atStart => exact ⟨0, Nat.zero_le _, rfl, Lib.hid ⟨bld_new w, rfl⟩, (Below.refl _ _).alloc (Nat.le_refl _) _, by simp [jn]⟩
  case round =>
    obtain ⟨k, hk, rfl, hb, hw, hjl⟩ := hrel
    have hsz := hw.size
    have hup := Upd0.of_below hw
    by_cases hlt : k < L.length
    · obtain ⟨g, o, rfl, hg, hcs⟩ := (hS.below hw).some hlt
      obtain ⟨x, hx⟩ : ∃ x, L[k]? = some x := ⟨L[k], List.getElem?_eq_getElem hlt⟩
      have hc := hcs k x hx
      clear hcs
      cases ho : lblOk x with
      | false =>
        have hf := Lib.hid (jnB_no hx ho)
        have hxh := Lib.hid hx
        have hxl : x = [] ∨ ∃ c t, x = c :: t ∧ 63 ≤ t.length := by
          cases x with
          | nil => exact .inl rfl
          | cons c t =>
            refine .inr ⟨c, t, rfl, ?_⟩
            cases Nat.lt_or_ge t.length 63 with
            | inl h => rw [lblOk_iff.2 (by simp; omega)] at ho; cases ho
            | inr h => exact h
        clear hx ho
        rcases hxl with rfl | ⟨c, t, rfl, ht⟩
        all_goals
          go_wp2_with (first | (with_reducible refine wp_serial (by kernel_rfl) (by kernel_rfl) (by (repeat (first | (with_reducible apply NoBad.then) | (with_reducible apply NoBad.inBlock) | (with_reducible exact NoBad.rets))); done) ?_) | fail)
          all_goals go_returns
          all_goals exact ⟨by rw [hf.out.1, hf.out.2]; rfl, (by (repeat (first | (with_reducible exact Upd.refl _ _) | (with_reducible assumption) | (with_reducible apply Upd.drew) | (with_reducible apply Upd.alloc) | (refine Upd0.tr ?_ (by with_reducible assumption)) | (refine Upd.setCell ?_ (fun h => absurd h (by first | exact Nat.lt_irrefl _ | (simp only []; omega))) _))); done)⟩
      | true =>
        obtain ⟨h1, h2⟩ := lblOk_iff.1 ho
        have hst := Lib.hid (all_snoc hb.out.2 hx ho)
        obtain ⟨c, t, rfl⟩ : ∃ c t, x = c :: t := by
          cases x with
          | nil => simp at h1
          | cons c t => exact ⟨c, t, rfl⟩
        simp only [List.length_cons] at h1 h2
        clear hx ho
        rcases Nat.lt_or_ge 254 (jn (L.take k)).length with hlong | hshort
        · have hf := Lib.hid (jnB_long (L := L) (by have := jn_pre L k; omega))
          go_wp2_with (first
            | (go_at_call 56; refine (bldLen_w _ _ _ _ hb.out.1).use ?_; rintro r w1 ⟨rfl, rfl⟩)
            | (with_reducible refine wp_serial (by kernel_rfl) (by kernel_rfl) (by (repeat (first | (with_reducible apply NoBad.then) | (with_reducible apply NoBad.inBlock) | (with_reducible exact NoBad.rets))); done) ?_) | fail)
          all_goals go_returns
          all_goals exact ⟨by rw [hf.out.1, hf.out.2]; rfl, (by (repeat (first | (with_reducible exact Upd.refl _ _) | (with_reducible assumption) | (with_reducible apply Upd.drew) | (with_reducible apply Upd.alloc) | (refine Upd0.tr ?_ (by with_reducible assumption)) | (refine Upd.setCell ?_ (fun h => absurd h (by first | exact Nat.lt_irrefl _ | (simp only []; omega))) _))); done)⟩
        · go_wp2_with (first
            | (go_at_call 56; refine (bldLen_w _ _ _ _ hb.out.1).use ?_; rintro r w1 ⟨rfl, rfl⟩)
            | (go_at_call 45; refine (bldByteN_w _ _ _ (t.length + 1) (by omega) _ hb.out.1 (by omega) hsz).use ?_; rintro r w2 ⟨rfl, hb2, hw2⟩; have hb2h := Lib.hid hb2; clear hb2; have hsz2 := hw2.size)
            | (go_at_call 57; refine (bldStr_w _ _ _ (c :: t) _ hb2h.out (by simp; omega) (by simp; omega) (by omega)).use ?_; rintro r w3 ⟨rfl, hb3, hw3⟩; have hb3h := Lib.hid hb3; clear hb3)
            | (with_reducible refine wp_serial (by kernel_rfl) (by kernel_rfl) (by (repeat (first | (with_reducible apply NoBad.then) | (with_reducible apply NoBad.inBlock) | (with_reducible exact NoBad.rets))); done) ?_) | fail)
          go_roundw
          case rel => exact ⟨k + 1, by omega, by go_num, Lib.hid ⟨by rw [hst.out.2]; exact hb3h.out, hst.out.1⟩, (hw.trans hw2).trans hw3, by rw [hst.out.2]; simp; omega⟩
          case measure => simp [intOf]; omega
    · have htk : L.take k = L := List.take_of_length_le (by omega)
      rw [htk] at hb hjl
      rcases Nat.lt_or_ge 254 (jn L).length with hlong | hshort
      · have hf := Lib.hid (jnB_long hlong)
        go_wp2_with (first
          | (go_at_call 56; refine (bldLen_w _ _ _ _ hb.out.1).use ?_; rintro r w1 ⟨rfl, rfl⟩)
          | (with_reducible refine wp_serial (by kernel_rfl) (by kernel_rfl) (by (repeat (first | (with_reducible apply NoBad.then) | (with_reducible apply NoBad.inBlock) | (with_reducible exact NoBad.rets))); done) ?_) | fail)
        all_goals go_returns
        all_goals exact ⟨by rw [hf.out.1, hf.out.2]; rfl, (by (repeat (first | (with_reducible exact Upd.refl _ _) | (with_reducible assumption) | (with_reducible apply Upd.drew) | (with_reducible apply Upd.alloc) | (refine Upd0.tr ?_ (by with_reducible assumption)) | (refine Upd.setCell ?_ (fun h => absurd h (by first | exact Nat.lt_irrefl _ | (simp only []; omega))) _))); done)⟩
      · have hf := Lib.hid (jnB_yes hb.out.2 hshort)
        go_wp2_with (first
          | (go_at_call 56; refine (bldLen_w _ _ _ _ hb.out.1).use ?_; rintro r w1 ⟨rfl, rfl⟩)
          | (go_at_call 46; refine (bldString_w _ _ _ _ hb.out.1 hsz).use ?_; rintro r w2 ⟨rfl, hw2⟩)
          | (with_reducible refine wp_serial (by kernel_rfl) (by kernel_rfl) (by (repeat (first | (with_reducible apply NoBad.then) | (with_reducible apply NoBad.inBlock) | (with_reducible exact NoBad.rets))); done) ?_) | fail)
        all_goals go_returns
        all_goals exact ⟨by rw [hf.out.1, hf.out.2]; rfl, Upd0.of_below (hw.trans hw2)⟩
end Go.Proofs.Ytdjleplefbmjbaa
