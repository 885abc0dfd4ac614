/-
  The name of labels: the document's Join.
-/
import Derived.Test.YtdjleplefbmjbaaFlB
import Derived.Test.YtdjleplefbmjbaaSer3
namespace Go.Proofs.Ytdjleplefbmjbaa
open Go.RowKit
set_option linter.unusedSimpArgs false
set_option linter.unusedVariables false
theorem jnB_many {L : List Bs} (h : 127 < L.length) : jnS L = [] ∧ jnC L = 1 := by
  have : jnB L = false := by
    cases hb : jnB L
    · rfl
    · exfalso
      simp only [jnB, Bool.and_eq_true, decide_eq_true_eq] at hb
      have := lbls_len L hb.1; omega
  rw [jnS, jnC, this]; exact ⟨rfl, rfl⟩
theorem one_br {W : World} {b n : Nat} (h : W.heap[b]? = some (.cells #[.int .u8 n] U8 (0, 0))) (hn : n < 256) : BR U8 0 W (.slice (some ⟨b, 0, none⟩) 1 1) [UInt8.ofNat n] :=
  .inr ⟨b, 1, _, _, rfl, Nat.zero_le _, h, .inl (Nat.le_refl _), Nat.le_refl _, by decide, rfl, by simp [byt, UInt8.toNat_ofNat']; omega⟩
set_option maxRecDepth 100000 in
set_option maxHeartbeats 1000000 in
theorem rjoin_w (ao : Option Addr) (cap : Nat) (L : List Bs) (w : World) (hS : SR w ao L) (hm : L.length ≤ 1000000) : Calls Try.prog 33 #[.slice ao L.length cap] w (Rets fun r w' => r = .tuple #[.string ⟨(jnS L).toArray⟩, .int .i64 (jnC L)] ∧ Upd0 w w') := by
  rcases Nat.lt_or_ge 127 L.length with hmany | hfew
  · have hf := Lib.hid (jnB_many hmany)
    go_enter Try.func33, Try.ntmps33
    go_wp2_with (first | (with_reducible refine wp_serial (by kernel_rfl) (by kernel_rfl) (by (repeat (first | (with_reducible apply NoBad.then) | (with_reducible apply NoBad.inBlock) | (with_reducible exact NoBad.rets))); done) ?_) | fail)
    all_goals go_returns
    all_goals exact ⟨by rw [hf.out.1, hf.out.2]; rfl, (by (repeat (first | (with_reducible exact Upd.refl _ _) | (with_reducible assumption) | (with_reducible apply Upd.drew) | (with_reducible apply Upd.alloc) | (refine Upd0.tr ?_ (by with_reducible assumption)) | (refine Upd.setCell ?_ (fun h => absurd h (by first | exact Nat.lt_irrefl _ | (simp only []; omega))) _))); done)⟩
  go_enter Try.func33, Try.ntmps33
  go_wp2_with (first | (with_reducible refine wp_serial (by kernel_rfl) (by kernel_rfl) (by (repeat (first | (with_reducible apply NoBad.then) | (with_reducible apply NoBad.inBlock) | (with_reducible exact NoBad.rets))); done) ?_) | fail)
  go_loopw [4, 5] (fun s i wr => ∃ (k : Nat) (q : Bs), k ≤ L.length ∧ i = .int .i64 k ∧ s = .string ⟨q.toArray⟩ ∧ q.length ≤ 64 * k ∧ Hid (q = jn (L.take k) ∧ (L.take k).all lblOk = true) ∧ Upd0 w wr) (fun _ i _ => L.length - (intOf i).toNat)
  case atStart => exact ⟨0, [], Nat.zero_le _, rfl, rfl, by simp, Lib.hid ⟨by simp [jn], rfl⟩, Upd.refl _ _⟩
  case round =>
    obtain ⟨k, q, hk, rfl, rfl, hql, hq, hu⟩ := hrel
    by_cases hlt : k < L.length
    · obtain ⟨g, o, rfl, hg, hcs⟩ := (hS.up hu).some hlt
      obtain ⟨x, hx⟩ : ∃ x, L[k]? = some x := ⟨L[k], List.getElem?_eq_getElem hlt⟩
      have hc := hcs k x hx
      clear hcs
      cases ho : lblOk x with
      | false =>
        have hf := Lib.hid (jnB_no hx ho)
        have hxl : x.length < 1 ∨ (1 ≤ x.length ∧ 63 < x.length) := by
          rcases Nat.lt_or_ge x.length 1 with h | h
          · exact .inl h
          · refine .inr ⟨h, ?_⟩
            rcases Nat.lt_or_ge 63 x.length with h' | h'
            · exact h'
            · rw [lblOk_iff.2 ⟨h, h'⟩] at ho; cases ho
        clear hx ho
        rcases hxl with ht | ⟨ht, ht2⟩
        all_goals
          go_wp2_with (first | (with_reducible refine wp_serial (by kernel_rfl) (by kernel_rfl) (by (repeat (first | (with_reducible apply NoBad.then) | (with_reducible apply NoBad.inBlock) | (with_reducible exact NoBad.rets))); done) ?_) | fail)
          all_goals go_returns
          all_goals exact ⟨by rw [hf.out.1, hf.out.2]; rfl, (by (repeat (first | (with_reducible exact Upd.refl _ _) | (with_reducible assumption) | (with_reducible apply Upd.drew) | (with_reducible apply Upd.alloc) | (refine Upd0.tr ?_ (by with_reducible assumption)) | (refine Upd.setCell ?_ (fun h => absurd h (by first | exact Nat.lt_irrefl _ | (simp only []; omega))) _))); done)⟩
      | true =>
        obtain ⟨h1, h2⟩ := lblOk_iff.1 ho
        have hst := Lib.hid (all_snoc hq.out.2 hx ho)
        clear hx ho
        go_wp2_with (first
          | (with_reducible refine wp_serial3_2 0 [] [0, 1, 2, 3, 4, 5, 10, 11, 12, 13] 6 [7] 8 [9, 14, 15] [_, _, _, _, _, _, _, _, _, _] _ [_] _ [_, _, _] (by kernel_rfl) (by decide +kernel) rfl rfl rfl rfl rfl ⟨Nat.zero_le _, fun s hs => absurd hs List.not_mem_nil⟩ (by (repeat (first | (with_reducible apply NoBad.then) | (with_reducible apply NoBad.inBlock) | (with_reducible exact NoBad.rets))); done) ?_)
          | (refine And.intro (Ext.refl _) ?_)
          | (refine wpList_ofB rfl (.tmp 36) 74 9 rfl 5 Try.underlying74 Try.underlying5 Try.underlying9 rfl (one_br (alloc_last wr _ wr.heap.size rfl) (by omega)) ?_)
          | (with_reducible refine wp_serial (by kernel_rfl) (by kernel_rfl) (by (repeat (first | (with_reducible apply NoBad.then) | (with_reducible apply NoBad.inBlock) | (with_reducible exact NoBad.rets))); done) ?_)
          | fail)
        go_roundw
        case rel => exact ⟨k + 1, q ++ UInt8.ofNat x.length :: x, by omega, by go_num, rfl, by simp; omega, Lib.hid ⟨by rw [hst.out.2, hq.out.1]; simp, hst.out.1⟩, (by (repeat (first | (with_reducible exact Upd.refl _ _) | (with_reducible assumption) | (with_reducible apply Upd.drew) | (with_reducible apply Upd.alloc) | (refine Upd0.tr ?_ (by with_reducible assumption)) | (refine Upd.setCell ?_ (fun h => absurd h (by first | exact Nat.lt_irrefl _ | (simp only []; omega))) _))); done)⟩
        case measure => simp [intOf]; omega
    · have htk : L.take k = L := List.take_of_length_le (by omega)
      rw [htk] at hq
      rcases Nat.lt_or_ge 254 (jn L).length with hlong | hshort
      · have hf := Lib.hid (jnB_long hlong)
        have hq2 : 254 < q.length := by rw [hq.out.1]; exact hlong
        go_wp2_with (first | (with_reducible refine wp_serial (by kernel_rfl) (by kernel_rfl) (by (repeat (first | (with_reducible apply NoBad.then) | (with_reducible apply NoBad.inBlock) | (with_reducible exact NoBad.rets))); done) ?_) | fail)
        all_goals go_returns
        all_goals exact ⟨by rw [hf.out.1, hf.out.2]; rfl, (by (repeat (first | (with_reducible exact Upd.refl _ _) | (with_reducible assumption) | (with_reducible apply Upd.drew) | (with_reducible apply Upd.alloc) | (refine Upd0.tr ?_ (by with_reducible assumption)) | (refine Upd.setCell ?_ (fun h => absurd h (by first | exact Nat.lt_irrefl _ | (simp only []; omega))) _))); done)⟩
      · have hf := Lib.hid (jnB_yes hq.out.2 hshort)
        have hq2 : q.length ≤ 254 := by rw [hq.out.1]; exact hshort
        go_wp2_with (first | (with_reducible refine wp_serial (by kernel_rfl) (by kernel_rfl) (by (repeat (first | (with_reducible apply NoBad.then) | (with_reducible apply NoBad.inBlock) | (with_reducible exact NoBad.rets))); done) ?_) | fail)
        all_goals go_returns
        all_goals exact ⟨by rw [hf.out.1, hf.out.2, ← hq.out.1]; rfl, (by (repeat (first | (with_reducible exact Upd.refl _ _) | (with_reducible assumption) | (with_reducible apply Upd.drew) | (with_reducible apply Upd.alloc) | (refine Upd0.tr ?_ (by with_reducible assumption)) | (refine Upd.setCell ?_ (fun h => absurd h (by first | exact Nat.lt_irrefl _ | (simp only []; omega))) _))); done)⟩
end Go.Proofs.Ytdjleplefbmjbaa
