/-
  A name printed: the document's text and Print.
-/
import Derived.Test.YtdjleplefbmjbaaPrA
namespace Go.Proofs.Ytdjleplefbmjbaa
open Go.RowKit
set_option linter.unusedSimpArgs false
set_option linter.unusedVariables false
theorem cells_br {W : World} {b n : Nat} {l : Bs} {cells : Array Value} (hc : cells = (byt l).toArray) (hn : l.length = n) (h : W.heap[b]? = some (.cells cells U8 (0, 0))) (hm : n ≤ 1000) : BR U8 0 W (.slice (some ⟨b, 0, none⟩) n n) l := by
  subst hc
  subst hn
  exact .inr ⟨b, l.length, _, _, rfl, Nat.zero_le _, h, .inl (Nat.le_refl _), Nat.le_refl _, by unfold maxLen; omega, by simp [byt_len], by simp [byt_len, List.take_of_length_le]⟩
theorem byt1 (c : UInt8) : #[Value.int .u8 (c.toNat : Int)] = (byt [c]).toArray := rfl
theorem esc_num3 {c : UInt8} (hA : ¬ (c = 46 ∨ c = 92)) (hB : c.toNat < 33 ∨ 126 < c.toNat) : ∃ d1 d2 d3, esc c = [92, d1, d2, d3] ∧ #[Value.int .u8 (48 + (c.toNat : Int) / 100), .int .u8 (48 + (c.toNat : Int) / 10 % 10), .int .u8 (48 + (c.toNat : Int) % 10)] = (byt [d1, d2, d3]).toArray := by
  have hc := c.toNat_lt
  refine ⟨_, _, _, by rw [esc, if_neg hA, if_pos hB], ?_⟩
  simp only [byt, List.map_cons, List.map_nil]
  rw [dig_nat (by omega), dig_nat (by omega), dig_nat (by omega)]
  simp
set_option maxRecDepth 100000 in
set_option maxHeartbeats 1000000 in
theorem text_w (x : Bs) (hm : x.length ≤ 1000) (w : World) : Calls Try.prog 48 #[.string ⟨x.toArray⟩] w (Rets fun r w' => r = .string ⟨(txt x).toArray⟩ ∧ Upd0 w w') := by
  go_enter Try.func48, Try.ntmps48
  go_wp2_with (first | (with_reducible refine wp_serial (by kernel_rfl) (by kernel_rfl) (by (repeat (first | (with_reducible apply NoBad.then) | (with_reducible apply NoBad.inBlock) | (with_reducible exact NoBad.rets))); done) ?_) | fail)
  go_loopw [3, 4] (fun s i wr => ∃ (k : Nat) (q : Bs), k ≤ x.length ∧ i = .int .i64 k ∧ s = .string ⟨q.toArray⟩ ∧ Hid (q = txt (x.take k)) ∧ q.length ≤ 4 * k ∧ Upd0 w wr) (fun _ i _ => x.length - (intOf i).toNat)
  case atStart => exact ⟨0, [], Nat.zero_le _, rfl, rfl, Lib.hid (by simp [txt]), by simp, Upd.refl _ _⟩
  case round =>
    obtain ⟨k, q, hk, rfl, rfl, hq, hql, hu⟩ := hrel
    by_cases hlt : k < x.length
    · obtain ⟨c, hcx⟩ : ∃ c, x[k]? = some c := ⟨x[k], List.getElem?_eq_getElem hlt⟩
      have hce : x[k] = c := (List.getElem?_eq_some_iff.1 hcx).2
      have hst2 := Lib.hid (txt_snoc hcx)
      have hcb : c.toNat ≤ 255 := by have := c.toNat_lt; omega
      clear hcx
      by_cases hA : c = 46 ∨ c = 92
      · rcases hA with rfl | rfl
        · go_wp2_with (first
            | (refine wpList_ofB rfl (.tmp 24) 74 9 rfl 5 Try.underlying74 Try.underlying5 Try.underlying9 rfl (cells_br (l := [46]) (cells := #[.int .u8 46]) rfl rfl (alloc_last wr _ wr.heap.size rfl) (by omega)) ?_)
            | (with_reducible refine wp_serial (by kernel_rfl) (by kernel_rfl) (by (repeat (first | (with_reducible apply NoBad.then) | (with_reducible apply NoBad.inBlock) | (with_reducible exact NoBad.rets))); done) ?_) | fail)
          go_roundw
          case rel => exact ⟨k + 1, _, by omega, by go_num, rfl, Lib.hid (by rw [hst2.out, ← hq.out]; rfl), by simp; omega, (by (repeat (first | (with_reducible exact Upd.refl _ _) | (with_reducible assumption) | (with_reducible apply Upd.drew) | (with_reducible apply Upd.alloc) | (refine Upd0.tr ?_ (by with_reducible assumption)) | (refine Upd.setCell ?_ (fun h => absurd h (by first | exact Nat.lt_irrefl _ | (simp only []; omega))) _))); done)⟩
          case measure => simp [intOf]; omega
        · go_wp2_with (first
            | (refine wpList_ofB rfl (.tmp 24) 74 9 rfl 5 Try.underlying74 Try.underlying5 Try.underlying9 rfl (cells_br (l := [92]) (cells := #[.int .u8 92]) rfl rfl (alloc_last wr _ wr.heap.size rfl) (by omega)) ?_)
            | (with_reducible refine wp_serial (by kernel_rfl) (by kernel_rfl) (by (repeat (first | (with_reducible apply NoBad.then) | (with_reducible apply NoBad.inBlock) | (with_reducible exact NoBad.rets))); done) ?_) | fail)
          go_roundw
          case rel => exact ⟨k + 1, _, by omega, by go_num, rfl, Lib.hid (by rw [hst2.out, ← hq.out]; rfl), by simp; omega, (by (repeat (first | (with_reducible exact Upd.refl _ _) | (with_reducible assumption) | (with_reducible apply Upd.drew) | (with_reducible apply Upd.alloc) | (refine Upd0.tr ?_ (by with_reducible assumption)) | (refine Upd.setCell ?_ (fun h => absurd h (by first | exact Nat.lt_irrefl _ | (simp only []; omega))) _))); done)⟩
          case measure => simp [intOf]; omega
      · have hn1 : ((c.toNat : Int) == 46) = false := by
          rw [beq_eq_false_iff_ne]; intro e; exact hA (.inl (UInt8.toNat_inj.1 (by show c.toNat = 46; omega)))
        have hn2 : ((c.toNat : Int) == 92) = false := by
          rw [beq_eq_false_iff_ne]; intro e; exact hA (.inr (UInt8.toNat_inj.1 (by show c.toNat = 92; omega)))
        by_cases hB : c.toNat < 33 ∨ 126 < c.toNat
        · obtain ⟨d1, d2, d3, hd1, hd2⟩ := esc_num3 hA hB
          have hd1h := Lib.hid hd1
          have hd2h := Lib.hid hd2
          clear hA hd1 hd2
          have hB' : c.toNat < 33 ∨ (33 ≤ c.toNat ∧ 126 < c.toNat) := by omega
          clear hB
          rcases hB' with hB | ⟨hB1, hB⟩
          all_goals
            go_wp2_with (first
              | (refine wpList_ofB rfl (.tmp 45) 74 9 rfl 5 Try.underlying74 Try.underlying5 Try.underlying9 rfl (cells_br hd2h.out rfl (alloc_last wr _ wr.heap.size rfl) (by omega)) ?_)
              | (with_reducible refine wp_serial (by kernel_rfl) (by kernel_rfl) (by (repeat (first | (with_reducible apply NoBad.then) | (with_reducible apply NoBad.inBlock) | (with_reducible exact NoBad.rets))); done) ?_) | fail)
            go_roundw
            case rel => exact ⟨k + 1, _, by omega, by go_num, rfl, Lib.hid (by rw [hst2.out, ← hq.out, hd1h.out] <;> simp), by simp; omega, (by (repeat (first | (with_reducible exact Upd.refl _ _) | (with_reducible assumption) | (with_reducible apply Upd.drew) | (with_reducible apply Upd.alloc) | (refine Upd0.tr ?_ (by with_reducible assumption)) | (refine Upd.setCell ?_ (fun h => absurd h (by first | exact Nat.lt_irrefl _ | (simp only []; omega))) _))); done)⟩
            case measure => simp [intOf]; omega
        · have hn4 := Lib.hid (esc_one hA hB)
          have hB1 : 33 ≤ c.toNat := by omega
          have hB2 : c.toNat ≤ 126 := by omega
          clear hA hB
          go_wp2_with (first
            | (refine wpList_ofB rfl (.tmp 50) 74 9 rfl 5 Try.underlying74 Try.underlying5 Try.underlying9 rfl (cells_br (byt1 c) rfl (alloc_last wr _ wr.heap.size rfl) (by omega)) ?_)
            | (with_reducible refine wp_serial (by kernel_rfl) (by kernel_rfl) (by (repeat (first | (with_reducible apply NoBad.then) | (with_reducible apply NoBad.inBlock) | (with_reducible exact NoBad.rets))); done) ?_) | fail)
          go_roundw
          case rel => exact ⟨k + 1, _, by omega, by go_num, rfl, Lib.hid (by rw [hst2.out, ← hq.out, hn4.out]), by simp; omega, (by (repeat (first | (with_reducible exact Upd.refl _ _) | (with_reducible assumption) | (with_reducible apply Upd.drew) | (with_reducible apply Upd.alloc) | (refine Upd0.tr ?_ (by with_reducible assumption)) | (refine Upd.setCell ?_ (fun h => absurd h (by first | exact Nat.lt_irrefl _ | (simp only []; omega))) _))); done)⟩
          case measure => simp [intOf]; omega
    · go_wp2_with (first | (with_reducible refine wp_serial (by kernel_rfl) (by kernel_rfl) (by (repeat (first | (with_reducible apply NoBad.then) | (with_reducible apply NoBad.inBlock) | (with_reducible exact NoBad.rets))); done) ?_) | fail)
      all_goals go_returns
      all_goals exact ⟨by rw [show txt x = txt (x.take k) by rw [List.take_of_length_le (by omega)], ← hq.out]; rfl, (by (repeat (first | (with_reducible exact Upd.refl _ _) | (with_reducible assumption) | (with_reducible apply Upd.drew) | (with_reducible apply Upd.alloc) | (refine Upd0.tr ?_ (by with_reducible assumption)) | (refine Upd.setCell ?_ (fun h => absurd h (by first | exact Nat.lt_irrefl _ | (simp only []; omega))) _))); done)⟩
set_option maxRecDepth 100000 in
set_option maxHeartbeats 1000000 in
theorem rprint_w (s : Bs) (hm : s.length ≤ 70000) (w : World) : Calls Try.prog 18 #[.string ⟨s.toArray⟩] w (Rets fun r w' => r = .tuple #[.string ⟨(prnS s).toArray⟩, .int .i64 (prnC s)] ∧ Upd0 w w') := by
  have hmm : s.length ≤ maxLen := by unfold maxLen; omega
  cases hb : cutB s with
  | false =>
    have hf := Lib.hid (show prnS s = [] ∧ prnC s = 1 by rw [prnS, prnC, hb]; exact ⟨rfl, rfl⟩)
    have hbh := Lib.hid hb
    clear hb
    go_enter Try.func18, Try.ntmps18
    go_wp2_with (first
      | (go_at_call 47; (with_reducible refine (rcut_any s hmm _).use ?_); rintro v w1 ⟨ao, cap, rfl, hr, hu1⟩; rw [hbh.out]; clear hr)
      | (with_reducible refine wp_serial (by kernel_rfl) (by kernel_rfl) (by (repeat (first | (with_reducible apply NoBad.then) | (with_reducible apply NoBad.inBlock) | (with_reducible exact NoBad.rets))); done) ?_) | fail)
    all_goals go_returns
    all_goals exact ⟨by rw [hf.out.1, hf.out.2]; rfl, (by (repeat (first | (with_reducible exact Upd.refl _ _) | (with_reducible assumption) | (with_reducible apply Upd.drew) | (with_reducible apply Upd.alloc) | (refine Upd0.tr ?_ (by with_reducible assumption)) | (refine Upd.setCell ?_ (fun h => absurd h (by first | exact Nat.lt_irrefl _ | (simp only []; omega))) _))); done)⟩
  | true =>
    have hbh := Lib.hid hb
    obtain ⟨q1, q2⟩ := cut_lab hb
    obtain ⟨q3, q4⟩ := lab_jn s _ q2
    obtain ⟨L, hL⟩ : ∃ L, cutL s = L := ⟨_, rfl⟩
    rw [hL] at q2 q3 q4
    have hlb := lbls_len2 L
    rw [q3] at hlb
    have hLl := lbls_len L q4
    rw [q3] at hLl
    have hx63 : Hid (∀ (k : Nat) x, L[k]? = some x → x.length ≤ 63) := Lib.hid (fun k x hx => (lblOk_iff.1 ((List.all_eq_true.1 q4) x (List.mem_of_getElem? hx))).2)
    have hf := Lib.hid (show prnS s = prnL L ∧ prnC s = 0 by rw [prnS, prnC, hb, hL]; exact ⟨rfl, rfl⟩)
    have hLh := Lib.hid hL
    clear hb hL q2 q3 q4
    by_cases h0 : L = []
    · subst h0
      have hfe := Lib.hid (show prnL [] = [46] from rfl)
      go_enter Try.func18, Try.ntmps18
      go_wp2_with (first
        | (go_at_call 47; (with_reducible refine (rcut_any s hmm _).use ?_); rintro v w1 ⟨ao, cap, rfl, hr, hu1⟩; rw [hbh.out]; rw [hLh.out] at hr ⊢; clear hr)
        | (with_reducible refine wp_serial (by kernel_rfl) (by kernel_rfl) (by (repeat (first | (with_reducible apply NoBad.then) | (with_reducible apply NoBad.inBlock) | (with_reducible exact NoBad.rets))); done) ?_) | fail)
      all_goals go_returns
      all_goals exact ⟨by rw [hf.out.1, hf.out.2, hfe.out]; rfl, (by (repeat (first | (with_reducible exact Upd.refl _ _) | (with_reducible assumption) | (with_reducible apply Upd.drew) | (with_reducible apply Upd.alloc) | (refine Upd0.tr ?_ (by with_reducible assumption)) | (refine Upd.setCell ?_ (fun h => absurd h (by first | exact Nat.lt_irrefl _ | (simp only []; omega))) _))); done)⟩
    · have hfe := Lib.hid (show prnL L = lbls L by rw [prnL, if_neg h0])
      have h0' : ((L.length : Int) == 0) = false := by rw [beq_eq_false_iff_ne]; intro e; exact h0 (List.eq_nil_of_length_eq_zero (by omega))
      clear h0
      go_enter Try.func18, Try.ntmps18
      go_wp2_with (first
        | (go_at_call 47; (with_reducible refine (rcut_any s hmm _).use ?_); rintro v w1 ⟨ao, cap, rfl, hr, hu1⟩; rw [hbh.out]; rw [hLh.out] at hr ⊢; have hrh := Lib.hid hr; clear hr)
        | (with_reducible refine wp_serial (by kernel_rfl) (by kernel_rfl) (by (repeat (first | (with_reducible apply NoBad.then) | (with_reducible apply NoBad.inBlock) | (with_reducible exact NoBad.rets))); done) ?_) | fail)
      have hsr0 : SR w1 ao L := own_sr hrh.out rfl
      have hsr := Lib.hid hsr0
      clear hsr0
      go_loopw [6, 7] (fun q i wr => ∃ (k : Nat) (p : Bs), k ≤ L.length ∧ i = .int .i64 k ∧ q = .string ⟨p.toArray⟩ ∧ Hid (p = lbls (L.take k)) ∧ p.length ≤ 300 * k ∧ Upd0 w1 wr) (fun _ i _ => L.length - (intOf i).toNat)
      case atStart => exact ⟨0, [], Nat.zero_le _, rfl, rfl, Lib.hid (by simp [lbls]), by simp, Upd.refl _ _⟩
      case round =>
        obtain ⟨k, p, hk, rfl, rfl, hp, hpl, hu⟩ := hrel
        by_cases hlt : k < L.length
        · obtain ⟨g, o, rfl, hg, hcs⟩ := (hsr.out.up hu).some hlt
          obtain ⟨x, hx⟩ : ∃ x, L[k]? = some x := ⟨L[k], List.getElem?_eq_getElem hlt⟩
          have hc := hcs k x hx
          clear hcs
          have hxl := hx63.out k x hx
          have hst := Lib.hid (lbls_snoc hx)
          have hxt := (txt_len x).2
          clear hx
          go_wp2_with (first
            | (go_at_call 48; (with_reducible refine (text_w x (by omega) _).use ?_); rintro v w2 ⟨rfl, hu2⟩)
            | (with_reducible refine wp_serial (by kernel_rfl) (by kernel_rfl) (by (repeat (first | (with_reducible apply NoBad.then) | (with_reducible apply NoBad.inBlock) | (with_reducible exact NoBad.rets))); done) ?_) | fail)
          go_roundw
          case rel => exact ⟨k + 1, _, by omega, by go_num, rfl, Lib.hid (by rw [hst.out, ← hp.out]; simp), by simp; omega, (by (repeat (first | (with_reducible exact Upd.refl _ _) | (with_reducible assumption) | (with_reducible apply Upd.drew) | (with_reducible apply Upd.alloc) | (refine Upd0.tr ?_ (by with_reducible assumption)) | (refine Upd.setCell ?_ (fun h => absurd h (by first | exact Nat.lt_irrefl _ | (simp only []; omega))) _))); done)⟩
          case measure => simp [intOf]; omega
        · have htk : L.take k = L := List.take_of_length_le (by omega)
          rw [htk] at hp
          go_wp2_with (first | (with_reducible refine wp_serial (by kernel_rfl) (by kernel_rfl) (by (repeat (first | (with_reducible apply NoBad.then) | (with_reducible apply NoBad.inBlock) | (with_reducible exact NoBad.rets))); done) ?_) | fail)
          all_goals go_returns
          all_goals exact ⟨by rw [hf.out.1, hf.out.2, hfe.out, ← hp.out]; rfl, (by (repeat (first | (with_reducible exact Upd.refl _ _) | (with_reducible assumption) | (with_reducible apply Upd.drew) | (with_reducible apply Upd.alloc) | (refine Upd0.tr ?_ (by with_reducible assumption)) | (refine Upd.setCell ?_ (fun h => absurd h (by first | exact Nat.lt_irrefl _ | (simp only []; omega))) _))); done)⟩
end Go.Proofs.Ytdjleplefbmjbaa
