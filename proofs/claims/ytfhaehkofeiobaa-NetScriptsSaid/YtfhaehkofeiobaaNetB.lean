/-
  Networks: Len, Look, Take, Double.
-/
import Derived.Test.YtfhaehkofeiobaaNetA
namespace Go.Proofs.Ytfhaehkofeiobaa
open Go.RowKit
set_option linter.unusedSimpArgs false
set_option linter.unusedVariables false

theorem pk_len (p : Pk) : p.cells.length = 3 := rfl
def lookP (l : List Pk) (i : Int) : Pk := if 0 ≤ i ∧ i < l.length then l.getD i.toNat ⟨0, 0, .empty⟩ else ⟨0, 0, .empty⟩
def lookB (l : List Pk) (i : Int) : Bool := decide (0 ≤ i ∧ i < l.length)
theorem len_any (b : Nat) (v : Value) (nd rm : Int) (l : List Pk) (w : World) (h : NetIs 55 37 w b v nd rm l) :
    Calls Try.prog 21 #[.pointer (some ⟨b, 0, none⟩)] w (Rets fun r w' => r = .int .i64 l.length ∧ w = w') := by
  obtain ⟨ao, cap, rfl⟩ := ownsRow_slice h.row
  have c2 : w.cell? ⟨b, 2, none⟩ = some (.slice ao l.length cap) := by simpa using blk_cell h.blk 2
  clear h
  go_enter Try.func21, Try.ntmps21
  go_wp2_with (first | (with_reducible refine wp_serial (by kernel_rfl) (by kernel_rfl) (by (repeat (first | (with_reducible apply NoBad.then) | (with_reducible apply NoBad.inBlock) | (with_reducible exact NoBad.rets))); done) ?_))
  go_ret
  exact ⟨rfl, rfl⟩
theorem len_nil (w : World) :
    Calls Try.prog 21 #[.pointer none] w (Rets fun r w' => r = .int .i64 0 ∧ w = w') := by
  go_enter Try.func21, Try.ntmps21
  go_wp2_with (first | (with_reducible refine wp_serial (by kernel_rfl) (by kernel_rfl) (by (repeat (first | (with_reducible apply NoBad.then) | (with_reducible apply NoBad.inBlock) | (with_reducible exact NoBad.rets))); done) ?_))
  go_ret
  exact ⟨rfl, rfl⟩
theorem look_some (b : Nat) (v : Value) (nd rm : Int) (l : List Pk) (w : World) (h : NetIs 55 37 w b v nd rm l) (hl : l.length ≤ 1000) (i : Int) (h0 : 0 ≤ i) (h1 : i < l.length) :
    Calls Try.prog 19 #[.pointer (some ⟨b, 0, none⟩), .int .i64 i] w (Rets fun r w' => r = .tuple #[(lookP l i).val, .bool true] ∧ Upd0 w w') := by
  have hh := Lib.hid h
  have hw : wtn i 0 ((l.length : Int) - 1) = true := by simp [wtn]; omega
  obtain ⟨ao, cap, rfl⟩ := ownsRow_slice h.row
  obtain ⟨n, rfl⟩ := Int.eq_ofNat_of_zero_le h0
  have c2 : w.cell? ⟨b, 2, none⟩ = some (.slice ao l.length cap) := by simpa using blk_cell h.blk 2
  obtain ⟨g, rfl⟩ := ownsRow_some h.row (by omega)
  have hb := blk_lt h.blk
  have hx : l[n]? = some (lookP l n) := by
    have : n < l.length := by omega
    simp [lookP, h1, this]
  have e0 : w.cell? ⟨g, n * 3, none⟩ = some (.int .i64 (lookP l n).fr) := elem_cell pk_len h.row hx 0 _ (by omega) rfl
  have e1 : w.cell? ⟨g, n * 3 + 1, none⟩ = some (.int .i64 (lookP l n).to) := elem_cell pk_len h.row hx 1 _ (by omega) rfl
  have e2 : w.cell? ⟨g, n * 3 + 2, none⟩ = some (.string (lookP l n).by_) := elem_cell pk_len h.row hx 2 _ (by omega) rfl
  have hg := ownsRow_lt h.row (g := g) rfl
  clear h
  have hx := Lib.hid hx
  generalize lookP l n = x at *
  go_enter Try.func19, Try.ntmps19
  go_wp2_with (first
    | (with_reducible refine wp_serial (by kernel_rfl) (by kernel_rfl) (by (repeat (first | (with_reducible apply NoBad.then) | (with_reducible apply NoBad.inBlock) | (with_reducible exact NoBad.rets))); done) ?_)
    | (go_at_call 21; refine (len_any _ _ _ _ _ _ (net_ext hh.out (by (repeat (first | exact Ext.refl _ | assumption | apply Ext.drew | apply Ext.alloc)); done))).use ?_; rintro v w' ⟨rfl, rfl⟩)
    | (go_at_call 22; refine (within_any _ _ _ _).use ?_; rintro v w' ⟨rfl, rfl⟩))
  refine bodyPost_ret (v := .tuple #[x.val, .bool true]) (by simp [results, Try.results19, go_sem, Pk.val]) rfl ?_
  exact ⟨rfl, (by (repeat (first | exact Upd.refl _ _ | assumption | apply Upd.drew | apply Upd.alloc | (refine Upd.setCell ?_ (fun h => absurd h (by first | exact Nat.lt_irrefl _ | (simp only []; omega))) _))); done)⟩
theorem look_none (b : Nat) (v : Value) (nd rm : Int) (l : List Pk) (w : World) (h : NetIs 55 37 w b v nd rm l) (hl : l.length ≤ 1000) (i : Int) (h0 : lookB l i = false) :
    Calls Try.prog 19 #[.pointer (some ⟨b, 0, none⟩), .int .i64 i] w (Rets fun r w' => r = .tuple #[(lookP l i).val, .bool false] ∧ Upd0 w w') := by
  have hh := Lib.hid h
  have hw : wtn i 0 ((l.length : Int) - 1) = false := by simp [wtn, lookB] at h0 ⊢; omega
  have hx : lookP l i = ⟨0, 0, .empty⟩ := by unfold lookP; rw [if_neg (by simpa [lookB] using h0)]
  rw [hx]
  clear h h0 hx
  go_enter Try.func19, Try.ntmps19
  go_wp2_with (first
    | (with_reducible refine wp_serial (by kernel_rfl) (by kernel_rfl) (by (repeat (first | (with_reducible apply NoBad.then) | (with_reducible apply NoBad.inBlock) | (with_reducible exact NoBad.rets))); done) ?_)
    | (go_at_call 21; refine (len_any _ _ _ _ _ _ (net_ext hh.out (by (repeat (first | exact Ext.refl _ | assumption | apply Ext.drew | apply Ext.alloc)); done))).use ?_; rintro v w' ⟨rfl, rfl⟩)
    | (go_at_call 22; refine (within_any _ _ _ _).use ?_; rintro v w' ⟨rfl, rfl⟩))
  refine bodyPost_ret (v := .tuple #[Pk.val ⟨0, 0, .empty⟩, .bool false]) (by simp [results, Try.results19, go_sem, Pk.val]; rfl) rfl ?_
  exact ⟨rfl, (by (repeat (first | exact Upd.refl _ _ | assumption | apply Upd.drew | apply Upd.alloc | (refine Upd.setCell ?_ (fun h => absurd h (by first | exact Nat.lt_irrefl _ | (simp only []; omega))) _))); done)⟩
theorem look_any (b : Nat) (v : Value) (nd rm : Int) (l : List Pk) (w : World) (h : NetIs 55 37 w b v nd rm l) (hl : l.length ≤ 1000) (i : Int) :
    Calls Try.prog 19 #[.pointer (some ⟨b, 0, none⟩), .int .i64 i] w (Rets fun r w' => r = .tuple #[(lookP l i).val, .bool (lookB l i)] ∧ Upd0 w w') := by
  cases hb : lookB l i with
  | true =>
    have h2 : 0 ≤ i ∧ i < l.length := by simpa [lookB] using hb
    exact look_some b v nd rm l w h hl i h2.1 h2.2
  | false => exact look_none b v nd rm l w h hl i hb
theorem look_nil (w : World) (i : Int) :
    Calls Try.prog 19 #[.pointer none, .int .i64 i] w (Rets fun r w' => r = .tuple #[Pk.val ⟨0, 0, .empty⟩, .bool false] ∧ Upd0 w w') := by
  have hw : wtn i 0 (-1) = false := by simp [wtn]; omega
  go_enter Try.func19, Try.ntmps19
  go_wp2_with (first
    | (with_reducible refine wp_serial (by kernel_rfl) (by kernel_rfl) (by (repeat (first | (with_reducible apply NoBad.then) | (with_reducible apply NoBad.inBlock) | (with_reducible exact NoBad.rets))); done) ?_)
    | (go_at_call 21; refine (len_nil _).use ?_; rintro v w' ⟨rfl, rfl⟩)
    | (go_at_call 22; refine (within_any _ _ _ _).use ?_; rintro v w' ⟨rfl, rfl⟩))
  refine bodyPost_ret (v := .tuple #[Pk.val ⟨0, 0, .empty⟩, .bool false]) (by simp [results, Try.results19, go_sem, Pk.val]; rfl) rfl ?_
  exact ⟨rfl, (by (repeat (first | exact Upd.refl _ _ | assumption | apply Upd.drew | apply Upd.alloc | (refine Upd.setCell ?_ (fun h => absurd h (by first | exact Nat.lt_irrefl _ | (simp only []; omega))) _))); done)⟩

theorem double_nil (w : World) (i : Int) :
    Calls Try.prog 15 #[.pointer none, .int .i64 i] w (Rets fun r w' => r = .int .i64 1 ∧ Upd0 w w') := by
  go_enter Try.func15, Try.ntmps15
  go_wp2_with (first | (with_reducible refine wp_serial (by kernel_rfl) (by kernel_rfl) (by (repeat (first | (with_reducible apply NoBad.then) | (with_reducible apply NoBad.inBlock) | (with_reducible exact NoBad.rets))); done) ?_))
  go_ret
  exact ⟨rfl, (by (repeat (first | exact Upd.refl _ _ | assumption | apply Upd.drew | apply Upd.alloc | (refine Upd.setCell ?_ (fun h => absurd h (by first | exact Nat.lt_irrefl _ | (simp only []; omega))) _))); done)⟩
theorem double_none (b : Nat) (v : Value) (nd rm : Int) (l : List Pk) (w : World) (h : NetIs 55 37 w b v nd rm l) (hl : l.length ≤ 1000) (i : Int) (hi : lookB l i = false) :
    Calls Try.prog 15 #[.pointer (some ⟨b, 0, none⟩), .int .i64 i] w (Rets fun r w' => r = .int .i64 5 ∧ Upd0 w w') := by
  have hh := Lib.hid h
  clear h
  go_enter Try.func15, Try.ntmps15
  go_wp2_with (first
    | (with_reducible refine wp_serial (by kernel_rfl) (by kernel_rfl) (by (repeat (first | (with_reducible apply NoBad.then) | (with_reducible apply NoBad.inBlock) | (with_reducible exact NoBad.rets))); done) ?_)
    | (go_at_call 19; refine (look_any _ _ _ _ _ _ (net_ext hh.out (by (repeat (first | exact Ext.refl _ | assumption | apply Ext.drew | apply Ext.alloc)); done)) hl _).use ?_; rintro v w1 ⟨rfl, hu⟩; have hu1 := Lib.hid hu; clear hu))
  go_ret
  exact ⟨rfl, by have := hu1.out; (repeat (first | exact Upd.refl _ _ | assumption | apply Upd.drew | apply Upd.alloc | (refine Upd.setCell ?_ (fun h => absurd h (by first | exact Nat.lt_irrefl _ | (simp only []; omega))) _)))⟩
theorem double_send (b : Nat) (v : Value) (nd rm : Int) (l : List Pk) (w : World) (h : NetIs 55 37 w b v nd rm l) (hl : l.length ≤ 1000) (i : Int) (hi : lookB l i = true) (φ : Value → World → Prop)
    (hs : ∀ w1, Upd0 w w1 → Calls Try.prog 10 #[.pointer (some ⟨b, 0, none⟩), (lookP l i).val] w1 (Rets φ)) :
    Calls Try.prog 15 #[.pointer (some ⟨b, 0, none⟩), .int .i64 i] w (Rets φ) := by
  have hh := Lib.hid h
  have hs := Lib.hid hs
  clear h
  go_enter Try.func15, Try.ntmps15
  go_wp2_with (first
    | (with_reducible refine wp_serial (by kernel_rfl) (by kernel_rfl) (by (repeat (first | (with_reducible apply NoBad.then) | (with_reducible apply NoBad.inBlock) | (with_reducible exact NoBad.rets))); done) ?_)
    | (go_at_call 19; refine (look_any _ _ _ _ _ _ (net_ext hh.out (by (repeat (first | exact Ext.refl _ | assumption | apply Ext.drew | apply Ext.alloc)); done)) hl _).use ?_; rintro v w1 ⟨rfl, hu⟩; have hu1 := Lib.hid hu; clear hu)
    | (go_at_call 10; refine (hs.out _ (by have := hu1.out; (repeat (first | exact Upd.refl _ _ | assumption | apply Upd.drew | apply Upd.alloc | (refine Upd.setCell ?_ (fun h => absurd h (by first | exact Nat.lt_irrefl _ | (simp only []; omega))) _))))).use ?_; intro v w2 hφ))
  go_ret
  exact hφ
end Go.Proofs.Ytfhaehkofeiobaa
