/-
  Networks: the reference's methods: Send, Look, Double.
-/
import Derived.Test.YtfhaehkofeiobaaNetF
import Derived.Test.YtfhaehkofeiobaaMem2
namespace Go.Proofs.Ytfhaehkofeiobaa
open Go.RowKit
set_option linter.unusedSimpArgs false
set_option linter.unusedVariables false

theorem okPk_cases {nd : Int} {p : Pk} (h : okPk nd p = false) : p.fr < 0 ∨ (0 ≤ p.fr ∧ nd ≤ p.fr) ∨ (0 ≤ p.fr ∧ p.fr < nd ∧ p.to < 0) ∨ (0 ≤ p.fr ∧ p.fr < nd ∧ 0 ≤ p.to ∧ nd ≤ p.to) ∨ (0 ≤ p.fr ∧ p.fr < nd ∧ 0 ≤ p.to ∧ p.to < nd ∧ (p.by_.size : Int) < 1) ∨ (0 ≤ p.fr ∧ p.fr < nd ∧ 0 ≤ p.to ∧ p.to < nd ∧ (1 : Int) ≤ p.by_.size ∧ (65535 : Int) < p.by_.size) := by
  simp only [okPk, wtn, Bool.and_eq_false_iff, decide_eq_false_iff_not] at h
  omega
theorem okPk_true {nd : Int} {p : Pk} (h : okPk nd p = true) : 0 ≤ p.fr ∧ p.fr < nd ∧ 0 ≤ p.to ∧ p.to < nd ∧ (1 : Int) ≤ p.by_.size ∧ (p.by_.size : Int) ≤ 65535 := by
  simp only [okPk, wtn, Bool.and_eq_true, decide_eq_true_eq] at h
  omega
set_option maxHeartbeats 1600000 in
theorem rsend_arg (b : Nat) (v : Value) (nd rm : Int) (l : List Pk) (p : Pk) (w : World) (h : NetIs 31 33 w b v nd rm l) (hp : okPk nd p = false) :
    Calls Try.prog 11 #[.pointer (some ⟨b, 0, none⟩), p.val] w (Rets fun r w' => r = .int .i64 1 ∧ Upd0 w w') := by
  have c0 : w.cell? ⟨b, 0, none⟩ = some (.int .i64 nd) := by simpa using blk_cell h.blk 0
  have hb := blk_lt h.blk
  have hp' := okPk_cases hp
  obtain ⟨fr, to, by_⟩ := p
  simp only [Pk.val] at hp' ⊢
  clear hp h
  rcases hp' with h1 | ⟨h1, h2⟩ | ⟨h1, h2, h3⟩ | ⟨h1, h2, h3, h4⟩ | ⟨h1, h2, h3, h4, h5⟩ | ⟨h1, h2, h3, h4, h5, h6⟩
  all_goals
    go_enter Try.func11, Try.ntmps11
    go_wp2_with (first | (with_reducible refine wp_serial (by kernel_rfl) (by kernel_rfl) (by (repeat (first | (with_reducible apply NoBad.then) | (with_reducible apply NoBad.inBlock) | (with_reducible exact NoBad.rets))); done) ?_) | fail)
    go_ret
    exact ⟨rfl, (by (repeat (first | exact Upd.refl _ _ | assumption | apply Upd.drew | apply Upd.alloc | (refine Upd.setCell ?_ (fun h => absurd h (by first | exact Nat.lt_irrefl _ | (simp only []; omega))) _))); done)⟩
theorem rsend_full (b : Nat) (v : Value) (nd rm : Int) (l : List Pk) (p : Pk) (w : World) (h : NetIs 31 33 w b v nd rm l) (hp : okPk nd p = true) (hl : rm ≤ l.length) :
    Calls Try.prog 11 #[.pointer (some ⟨b, 0, none⟩), p.val] w (Rets fun r w' => r = .int .i64 4 ∧ Upd0 w w') := by
  obtain ⟨ao, cap, rfl⟩ := ownsRow_slice h.row
  have c0 : w.cell? ⟨b, 0, none⟩ = some (.int .i64 nd) := by simpa using blk_cell h.blk 0
  have c1 : w.cell? ⟨b, 1, none⟩ = some (.int .i64 rm) := by simpa using blk_cell h.blk 1
  have c2 : w.cell? ⟨b, 2, none⟩ = some (.slice ao l.length cap) := by simpa using blk_cell h.blk 2
  have hb := blk_lt h.blk
  obtain ⟨h1, h2, h3, h4, h5, h6⟩ := okPk_true hp
  obtain ⟨fr, to, by_⟩ := p
  simp only [Pk.val] at h1 h2 h3 h4 h5 h6 ⊢
  clear hp h
  go_enter Try.func11, Try.ntmps11
  go_wp2_with (first | (with_reducible refine wp_serial (by kernel_rfl) (by kernel_rfl) (by (repeat (first | (with_reducible apply NoBad.then) | (with_reducible apply NoBad.inBlock) | (with_reducible exact NoBad.rets))); done) ?_) | fail)
  go_ret
  exact ⟨rfl, (by (repeat (first | exact Upd.refl _ _ | assumption | apply Upd.drew | apply Upd.alloc | (refine Upd.setCell ?_ (fun h => absurd h (by first | exact Nat.lt_irrefl _ | (simp only []; omega))) _))); done)⟩
theorem rsend_ok (b : Nat) (v : Value) (nd rm : Int) (l : List Pk) (p : Pk) (w : World) (h : NetIs 31 33 w b v nd rm l) (hp : okPk nd p = true) (hl : (l.length : Int) < rm) (hr : rm ≤ 1000) :
    Calls Try.prog 11 #[.pointer (some ⟨b, 0, none⟩), p.val] w (Rets fun r w' => r = .int .i64 0 ∧ NetStep 31 33 w w' b v nd rm (l ++ [p])) := by
  obtain ⟨i0, hi, hz0, hz1, hz2⟩ := info_parts info_rpk
  have hN := h
  obtain ⟨ao, cap, rfl⟩ := ownsRow_slice h.row
  have c0 : w.cell? ⟨b, 0, none⟩ = some (.int .i64 nd) := by simpa using blk_cell h.blk 0
  have c1 : w.cell? ⟨b, 1, none⟩ = some (.int .i64 rm) := by simpa using blk_cell h.blk 1
  have c2 : w.cell? ⟨b, 2, none⟩ = some (.slice ao l.length cap) := by simpa using blk_cell h.blk 2
  have hb := blk_lt h.blk
  have hf := blk_frz h.blk 2
  obtain ⟨h1, h2, h3, h4, h5, h6⟩ := okPk_true hp
  have hrow := Lib.hid h.row
  have hNN := Lib.hid hN
  have hne := Lib.hid (fun e => h.ne e : ¬ (Value.slice ao l.length cap).ownBlock = some b)
  clear hN
  obtain ⟨fr, to, by_⟩ := p
  simp only [Pk.val] at h1 h2 h3 h4 h5 h6 ⊢
  clear hp h
  go_enter Try.func11, Try.ntmps11
  go_wp2_with (first
    | (with_reducible refine wp_serial (by kernel_rfl) (by kernel_rfl) (by (repeat (first | (with_reducible apply NoBad.then) | (with_reducible apply NoBad.inBlock) | (with_reducible exact NoBad.rets))); done) ?_)
    | (at_builtin; refine wpList_app (w := w) (by (repeat (first | exact Ext.refl _ | assumption | apply Ext.drew | apply Ext.alloc)); done) rfl (.tmp 57) (.tmp 59) 29 rfl 33 i0 _ 3 32 Try.underlying29 hi hz0 hz1 hz2 rfl (by decide) _ _ _ hrow.out rfl _ _ _ [.int .i64 fr, .int .i64 to, .string by_] rfl rfl (alloc_last _ _ _ (by simp)) rfl (by omega) (by omega) ?_; intro ao' cap' w1 hr hu hf; have d2 : w1.cell? ⟨b, 2, none⟩ = some (.slice ao l.length cap) := hu.cell hne.out (by go_simp); have e2 : w1.frozen? ⟨b, 2, none⟩ = false := (hu.frz hne.out (by simp; omega)).trans (by go_simp); have hrow1 := Lib.hid hr; have hu1 := Lib.hid hu; have hf1 := Lib.hid hf; clear hr hu hf)
    | fail)
  go_ret
  exact ⟨rfl, (net_app (p := ⟨fr, to, by_⟩) hNN.out (by (repeat (first | exact Upd.refl _ _ | assumption | apply Upd.drew | apply Upd.alloc | (refine Upd.setCell ?_ (fun h => absurd h (by first | exact Nat.lt_irrefl _ | (simp only []; omega))) _))); done) hu1.out hrow1.out hf1.out).step⟩
theorem rsend_any (b : Nat) (v : Value) (nd rm : Int) (l : List Pk) (p : Pk) (w : World) (h : NetIs 31 33 w b v nd rm l) (hr : rm ≤ 1000) :
    Calls Try.prog 11 #[.pointer (some ⟨b, 0, none⟩), p.val] w (Rets fun r w' => r = .int .i64 (sendC nd rm l p) ∧ NetStep 31 33 w w' b v nd rm (sendL nd rm l p)) := by
  unfold sendC sendL
  cases hp : okPk nd p with
  | false =>
    refine (rsend_arg b v nd rm l p w h hp).mono fun e w' he => ?_
    cases e with
    | returned r => exact ⟨he.1, (h.to he.2).step⟩
    | _ => exact he.elim
  | true =>
    by_cases hl : rm ≤ l.length
    · simp only [hl, if_true]
      refine (rsend_full b v nd rm l p w h hp hl).mono fun e w' he => ?_
      cases e with
      | returned r => exact ⟨he.1, (h.to he.2).step⟩
      | _ => exact he.elim
    · simp only [hl, if_true, if_false]
      exact rsend_ok b v nd rm l p w h hp (by omega) hr
theorem rlook_some (b : Nat) (v : Value) (nd rm : Int) (l : List Pk) (w : World) (h : NetIs 31 33 w b v nd rm l) (hl : l.length ≤ 1000) (i : Int) (h0 : 0 ≤ i) (h1 : i < l.length) :
    Calls Try.prog 20 #[.pointer (some ⟨b, 0, none⟩), .int .i64 i] w (Rets fun r w' => r = .tuple #[(lookP l i).val, .bool true] ∧ Upd0 w w') := by
  obtain ⟨ao, cap, rfl⟩ := ownsRow_slice h.row
  obtain ⟨n, rfl⟩ := Int.eq_ofNat_of_zero_le h0
  have c2 : w.cell? ⟨b, 2, none⟩ = some (.slice ao l.length cap) := by simpa using blk_cell h.blk 2
  obtain ⟨g, rfl⟩ := ownsRow_some h.row (by omega)
  have hb := blk_lt h.blk
  have hx : l[n]? = some (lookP l n) := by
    have : n < l.length := by omega
    simp [lookP, h1, this]
  have e0 : w.cell? ⟨g, n * 3, none⟩ = some (.int .i64 (lookP l n).fr) := elem_cell pk_len h.row hx 0 _ (by omega) rfl
  have e1 : w.cell? ⟨g, n * 3 + 1, none⟩ = some (.int .i64 (lookP l n).to) := elem_cell pk_len h.row hx 1 _ (by omega) rfl
  have e2 : w.cell? ⟨g, n * 3 + 2, none⟩ = some (.string (lookP l n).by_) := elem_cell pk_len h.row hx 2 _ (by omega) rfl
  have hg := ownsRow_lt h.row (g := g) rfl
  clear h hx
  generalize lookP l n = x at *
  go_enter Try.func20, Try.ntmps20
  go_wp2_with (first | (with_reducible refine wp_serial (by kernel_rfl) (by kernel_rfl) (by (repeat (first | (with_reducible apply NoBad.then) | (with_reducible apply NoBad.inBlock) | (with_reducible exact NoBad.rets))); done) ?_) | fail)
  refine bodyPost_ret (v := .tuple #[x.val, .bool true]) (by simp [results, Try.results20, go_sem, Pk.val]) rfl ?_
  exact ⟨rfl, (by (repeat (first | exact Upd.refl _ _ | assumption | apply Upd.drew | apply Upd.alloc | (refine Upd.setCell ?_ (fun h => absurd h (by first | exact Nat.lt_irrefl _ | (simp only []; omega))) _))); done)⟩
theorem rlook_none (b : Nat) (v : Value) (nd rm : Int) (l : List Pk) (w : World) (h : NetIs 31 33 w b v nd rm l) (hl : l.length ≤ 1000) (i : Int) (h0 : lookB l i = false) :
    Calls Try.prog 20 #[.pointer (some ⟨b, 0, none⟩), .int .i64 i] w (Rets fun r w' => r = .tuple #[(lookP l i).val, .bool false] ∧ Upd0 w w') := by
  have hw : i < 0 ∨ (0 ≤ i ∧ (l.length : Int) ≤ i) := by simp [lookB] at h0; omega
  have hx : lookP l i = ⟨0, 0, .empty⟩ := by unfold lookP; rw [if_neg (by simpa [lookB] using h0)]
  rw [hx]
  obtain ⟨ao, cap, rfl⟩ := ownsRow_slice h.row
  have c2 : w.cell? ⟨b, 2, none⟩ = some (.slice ao l.length cap) := by simpa using blk_cell h.blk 2
  have hb := blk_lt h.blk
  clear h h0 hx
  rcases hw with hw | ⟨hw, hw2⟩
  all_goals
    go_enter Try.func20, Try.ntmps20
    go_wp2_with (first | (with_reducible refine wp_serial (by kernel_rfl) (by kernel_rfl) (by (repeat (first | (with_reducible apply NoBad.then) | (with_reducible apply NoBad.inBlock) | (with_reducible exact NoBad.rets))); done) ?_) | fail)
    refine bodyPost_ret (v := .tuple #[Pk.val ⟨0, 0, .empty⟩, .bool false]) (by simp [results, Try.results20, go_sem, Pk.val]; rfl) rfl ?_
    exact ⟨rfl, (by (repeat (first | exact Upd.refl _ _ | assumption | apply Upd.drew | apply Upd.alloc | (refine Upd.setCell ?_ (fun h => absurd h (by first | exact Nat.lt_irrefl _ | (simp only []; omega))) _))); done)⟩
theorem rlook_any (b : Nat) (v : Value) (nd rm : Int) (l : List Pk) (w : World) (h : NetIs 31 33 w b v nd rm l) (hl : l.length ≤ 1000) (i : Int) :
    Calls Try.prog 20 #[.pointer (some ⟨b, 0, none⟩), .int .i64 i] w (Rets fun r w' => r = .tuple #[(lookP l i).val, .bool (lookB l i)] ∧ Upd0 w w') := by
  cases hb : lookB l i with
  | true =>
    have h2 : 0 ≤ i ∧ i < l.length := by simpa [lookB] using hb
    exact rlook_some b v nd rm l w h hl i h2.1 h2.2
  | false => exact rlook_none b v nd rm l w h hl i hb
theorem rdouble_none (b : Nat) (v : Value) (nd rm : Int) (l : List Pk) (w : World) (h : NetIs 31 33 w b v nd rm l) (hl : l.length ≤ 1000) (i : Int) (hi : lookB l i = false) :
    Calls Try.prog 16 #[.pointer (some ⟨b, 0, none⟩), .int .i64 i] w (Rets fun r w' => r = .int .i64 5 ∧ Upd0 w w') := by
  have hh := Lib.hid h
  clear h
  go_enter Try.func16, Try.ntmps16
  go_wp2_with (first
    | (with_reducible refine wp_serial (by kernel_rfl) (by kernel_rfl) (by (repeat (first | (with_reducible apply NoBad.then) | (with_reducible apply NoBad.inBlock) | (with_reducible exact NoBad.rets))); done) ?_)
    | (go_at_call 20; refine (rlook_any _ _ _ _ _ _ (net_ext hh.out (by (repeat (first | exact Ext.refl _ | assumption | apply Ext.drew | apply Ext.alloc)); done)) hl _).use ?_; rintro v w1 ⟨rfl, hu⟩; have hu1 := Lib.hid hu; clear hu)
    | fail)
  go_ret
  exact ⟨rfl, by have := hu1.out; (repeat (first | exact Upd.refl _ _ | assumption | apply Upd.drew | apply Upd.alloc | (refine Upd.setCell ?_ (fun h => absurd h (by first | exact Nat.lt_irrefl _ | (simp only []; omega))) _)))⟩
theorem rdouble_send (b : Nat) (v : Value) (nd rm : Int) (l : List Pk) (w : World) (h : NetIs 31 33 w b v nd rm l) (hl : l.length ≤ 1000) (i : Int) (hi : lookB l i = true) (φ : Value → World → Prop)
    (hs : ∀ w1, Upd0 w w1 → Calls Try.prog 11 #[.pointer (some ⟨b, 0, none⟩), (lookP l i).val] w1 (Rets φ)) :
    Calls Try.prog 16 #[.pointer (some ⟨b, 0, none⟩), .int .i64 i] w (Rets φ) := by
  have hh := Lib.hid h
  have hs := Lib.hid hs
  clear h
  go_enter Try.func16, Try.ntmps16
  go_wp2_with (first
    | (with_reducible refine wp_serial (by kernel_rfl) (by kernel_rfl) (by (repeat (first | (with_reducible apply NoBad.then) | (with_reducible apply NoBad.inBlock) | (with_reducible exact NoBad.rets))); done) ?_)
    | (go_at_call 20; refine (rlook_any _ _ _ _ _ _ (net_ext hh.out (by (repeat (first | exact Ext.refl _ | assumption | apply Ext.drew | apply Ext.alloc)); done)) hl _).use ?_; rintro v w1 ⟨rfl, hu⟩; have hu1 := Lib.hid hu; clear hu)
    | (go_at_call 11; refine (hs.out _ (by have := hu1.out; (repeat (first | exact Upd.refl _ _ | assumption | apply Upd.drew | apply Upd.alloc | (refine Upd.setCell ?_ (fun h => absurd h (by first | exact Nat.lt_irrefl _ | (simp only []; omega))) _))))).use ?_; intro v w2 hφ)
    | fail)
  go_ret
  exact hφ
theorem rdouble_any (b : Nat) (v : Value) (nd rm : Int) (l : List Pk) (w : World) (h : NetIs 31 33 w b v nd rm l) (hr : rm ≤ 1000) (hl : l.length ≤ 1000) (i : Int) :
    Calls Try.prog 16 #[.pointer (some ⟨b, 0, none⟩), .int .i64 i] w (Rets fun r w' => r = .int .i64 (doubleC nd rm l i) ∧ NetStep 31 33 w w' b v nd rm (doubleL nd rm l i)) := by
  unfold doubleC doubleL
  cases hb : lookB l i with
  | true =>
    refine rdouble_send b v nd rm l w h hl i hb _ fun w1 hu => ?_
    refine (rsend_any b v nd rm l (lookP l i) w1 (h.to hu).1 hr).mono fun e w' he => ?_
    cases e with
    | returned r => exact ⟨he.1, he.2.after hu⟩
    | _ => exact he.elim
  | false =>
    refine (rdouble_none b v nd rm l w h hl i hb).mono fun e w' he => ?_
    cases e with
    | returned r => exact ⟨he.1, (h.to he.2).step⟩
    | _ => exact he.elim
end Go.Proofs.Ytfhaehkofeiobaa
