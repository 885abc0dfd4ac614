/-
  Networks: Clear, New.
-/
import Derived.Test.YtfhaehkofeiobaaNetE
namespace Go.Proofs.Ytfhaehkofeiobaa
open Go.RowKit
set_option linter.unusedSimpArgs false
set_option linter.unusedVariables false

theorem NetIs.to {T E : TypeId} {w w' : World} {b : Nat} {v : Value} {nd rm : Int} {l : List Pk} (h : NetIs T E w b v nd rm l) (k : Upd0 w w') : NetTo T E w w' b v v nd rm l :=
  ⟨⟨k.block (fun h => h) h.blk, ownsRow_upd h.row k (fun _ _ h => h), h.ne⟩, k.mono (fun _ _ h => h.elim), Fresh.refl _ _⟩
theorem clear_nil (w : World) (node : Int) :
    Calls Try.prog 17 #[.pointer none, .int .i64 node] w (Rets fun r w' => r = .int .i64 0 ∧ Upd0 w w') := by
  go_enter Try.func17, Try.ntmps17
  go_wp2_with (first
    | (with_reducible refine wp_serial (by kernel_rfl) (by kernel_rfl) (by (repeat (first | (with_reducible apply NoBad.then) | (with_reducible apply NoBad.inBlock) | (with_reducible exact NoBad.rets))); done) ?_)
    | (go_at_call 21; refine (len_nil _).use ?_; rintro v w' ⟨rfl, rfl⟩))
  go_ret
  exact ⟨rfl, (by (repeat (first | exact Upd.refl _ _ | assumption | apply Upd.drew | apply Upd.alloc | (refine Upd.setCell ?_ (fun h => absurd h (by first | exact Nat.lt_irrefl _ | (simp only []; omega))) _))); done)⟩
theorem clear_none (b : Nat) (v : Value) (nd rm : Int) (w : World) (h : NetIs 55 37 w b v nd rm []) (node : Int) :
    Calls Try.prog 17 #[.pointer (some ⟨b, 0, none⟩), .int .i64 node] w (Rets fun r w' => r = .int .i64 0 ∧ Upd0 w w') := by
  have hh := Lib.hid h
  clear h
  go_enter Try.func17, Try.ntmps17
  go_wp2_with (first
    | (with_reducible refine wp_serial (by kernel_rfl) (by kernel_rfl) (by (repeat (first | (with_reducible apply NoBad.then) | (with_reducible apply NoBad.inBlock) | (with_reducible exact NoBad.rets))); done) ?_)
    | (go_at_call 21; refine (len_any _ _ _ _ _ _ (net_ext hh.out (by (repeat (first | exact Ext.refl _ | assumption | apply Ext.drew | apply Ext.alloc)); done))).use ?_; rintro v w' ⟨rfl, rfl⟩))
  go_ret
  exact ⟨rfl, (by (repeat (first | exact Upd.refl _ _ | assumption | apply Upd.drew | apply Upd.alloc | (refine Upd.setCell ?_ (fun h => absurd h (by first | exact Nat.lt_irrefl _ | (simp only []; omega))) _))); done)⟩
theorem net_df {T E : TypeId} {w wm w1 : World} {b g cap : Nat} {nd rm : Int} {l m : List Pk} (hN : NetIs T E w b (.slice (some ⟨g, 0, none⟩) l.length cap) nd rm l) (h0 : Upd0 w wm) (hD : DfEnd E g cap m wm w1) :
    NetTo T E w (w1.setCell ⟨b, 2, none⟩ (.slice (some ⟨g, 0, none⟩) m.length cap)) b (.slice (some ⟨g, 0, none⟩) l.length cap) (.slice (some ⟨g, 0, none⟩) m.length cap) nd rm m := by
  refine net_put hN ?_ hD.1 (fun k hk => .inl hk)
  exact Upd.trans (h0.mono (fun _ _ h => h.elim)) hD.2 (fun n _ h => by rw [h]; rfl)
set_option maxHeartbeats 400000 in
theorem clear_some (b : Nat) (v : Value) (nd rm : Int) (l : List Pk) (w : World) (h : NetIs 55 37 w b v nd rm l) (hl : l.length ≤ 1000) (hp : 0 < l.length) (node : Int) :
    Calls Try.prog 17 #[.pointer (some ⟨b, 0, none⟩), .int .i64 node] w (Rets fun r w' => r = .int .i64 ((l.length : Int) - (keepL node l).length) ∧ NetStep 55 37 w w' b v nd rm (keepL node l)) := by
  obtain ⟨ao, cap, rfl⟩ := ownsRow_slice h.row
  obtain ⟨g, rfl⟩ := ownsRow_some h.row hp
  have c2 : w.cell? ⟨b, 2, none⟩ = some (.slice (some ⟨g, 0, none⟩) l.length cap) := by simpa using blk_cell h.blk 2
  have f2 := blk_frz h.blk 2
  have hbl := blk_lt h.blk
  have hgl := ownsRow_lt h.row (g := g) rfl
  have hbg : ¬ b = g := fun e => h.ne (by rw [e]; rfl)
  have hk : (keepL node l).length ≤ l.length := List.length_filter_le _ _
  have hh := Lib.hid h
  clear h
  go_enter Try.func17, Try.ntmps17
  go_wp2_with (first
    | (with_reducible refine wp_serial (by kernel_rfl) (by kernel_rfl) (by (repeat (first | (with_reducible apply NoBad.then) | (with_reducible apply NoBad.inBlock) | (with_reducible exact NoBad.rets))); done) ?_)
    | (go_at_call 24; refine (delfunc_any l g cap w.heap.size node _ (ownsRow_ext hh.out.row (by (repeat (first | exact Ext.refl _ | assumption | apply Ext.drew | apply Ext.alloc)); done)) hl (by go_simp) (by omega)).use ?_; rintro v w1 ⟨rfl, hD⟩; have d2 : w1.cell? ⟨b, 2, none⟩ = some (.slice (some ⟨g, 0, none⟩) l.length cap) := hD.2.cell hbg (by go_simp); have e2 : w1.frozen? ⟨b, 2, none⟩ = false := (hD.2.frz hbg (by simp; omega)).trans (by go_simp); have hD1 := Lib.hid hD; clear hD)
    | (go_at_call 21; refine (len_any b _ nd rm _ _ (net_ext hh.out ?_)).use ?_; (focus ((repeat (first | exact Ext.refl _ | assumption | apply Ext.drew | apply Ext.alloc)); done)); rintro v w' ⟨rfl, rfl⟩)
    | (go_at_call 21; refine (len_any b _ nd rm _ _ (net_df hh.out (by (repeat (first | exact Upd.refl _ _ | assumption | apply Upd.drew | apply Upd.alloc | (refine Upd.setCell ?_ (fun h => absurd h (by first | exact Nat.lt_irrefl _ | (simp only []; omega))) _))); done) hD1.out).1).use ?_; rintro v w' ⟨rfl, rfl⟩)
    | fail)
  go_ret
  exact ⟨rfl, (net_df hh.out (by (repeat (first | exact Upd.refl _ _ | assumption | apply Upd.drew | apply Upd.alloc | (refine Upd.setCell ?_ (fun h => absurd h (by first | exact Nat.lt_irrefl _ | (simp only []; omega))) _))); done) hD1.out).step⟩
/-- Clear, whatever the packets -/
theorem clear_any (b : Nat) (v : Value) (nd rm : Int) (l : List Pk) (w : World) (h : NetIs 55 37 w b v nd rm l) (hl : l.length ≤ 1000) (node : Int) :
    Calls Try.prog 17 #[.pointer (some ⟨b, 0, none⟩), .int .i64 node] w (Rets fun r w' => r = .int .i64 ((l.length : Int) - (keepL node l).length) ∧ NetStep 55 37 w w' b v nd rm (keepL node l)) := by
  by_cases hp : 0 < l.length
  · exact clear_some b v nd rm l w h hl hp node
  · obtain rfl : l = [] := List.eq_nil_of_length_eq_zero (by omega)
    refine (clear_none b v nd rm w h node).mono fun e w' he => ?_
    cases e with
    | returned r => exact ⟨he.1, (h.to he.2).step⟩
    | _ => exact he.elim
def sendN (nd rm : Int) (l : List Pk) (p : Pk) : Int × List Pk := (sendC nd rm l p, sendL nd rm l p)
theorem send_any (b : Nat) (v : Value) (nd rm : Int) (l : List Pk) (p : Pk) (w : World) (h : NetIs 55 37 w b v nd rm l) (hn : 0 ≤ nd) (hn2 : nd ≤ 100) (hr : rm ≤ 1000) :
    Calls Try.prog 10 #[.pointer (some ⟨b, 0, none⟩), p.val] w (Rets fun r w' => r = .int .i64 (sendC nd rm l p) ∧ NetStep 55 37 w w' b v nd rm (sendL nd rm l p)) := by
  unfold sendC sendL
  cases hp : okPk nd p with
  | false =>
    refine (send_arg b v nd rm l p w h hn hn2 hp).mono fun e w' he => ?_
    cases e with
    | returned r => exact ⟨he.1, (h.to he.2).step⟩
    | _ => exact he.elim
  | true =>
    by_cases hl : rm ≤ l.length
    · simp only [hl, if_true]
      refine (send_full b v nd rm l p w h hn hn2 hp hl).mono fun e w' he => ?_
      cases e with
      | returned r => exact ⟨he.1, (h.to he.2).step⟩
      | _ => exact he.elim
    · simp only [hl, if_true, if_false]
      exact send_ok b v nd rm l p w h hn hn2 hp (by omega) hr
theorem take_any (b : Nat) (v : Value) (nd rm : Int) (l : List Pk) (w : World) (h : NetIs 55 37 w b v nd rm l) (hl : l.length ≤ 1000) (i : Int) :
    Calls Try.prog 12 #[.pointer (some ⟨b, 0, none⟩), .int .i64 i] w (Rets fun r w' => r = .tuple #[(lookP l i).val, .bool (lookB l i)] ∧ NetStep 55 37 w w' b v nd rm (takeL l i)) := by
  unfold takeL
  cases hb : lookB l i with
  | true => exact take_some b v nd rm l w h hl i hb
  | false =>
    refine (take_none b v nd rm l w h hl i hb).mono fun e w' he => ?_
    cases e with
    | returned r => exact ⟨he.1, (h.to he.2).step⟩
    | _ => exact he.elim
def doubleC (nd rm : Int) (l : List Pk) (i : Int) : Int := if lookB l i then sendC nd rm l (lookP l i) else 5
def doubleL (nd rm : Int) (l : List Pk) (i : Int) : List Pk := if lookB l i then sendL nd rm l (lookP l i) else l
theorem NetStep.after {T E : TypeId} {w w1 w2 : World} {b : Nat} {v : Value} {nd rm : Int} {l : List Pk} (h : NetStep T E w1 w2 b v nd rm l) (k : Upd0 w w1) : NetStep T E w w2 b v nd rm l := by
  obtain ⟨v', h1, h2, h3⟩ := h
  exact ⟨v', h1, Upd.trans (k.mono (fun _ _ h => h.elim)) h2 (fun _ _ h => h), fun n hn => orMap (h3 n hn) id (Nat.le_trans k.size)⟩
theorem double_any (b : Nat) (v : Value) (nd rm : Int) (l : List Pk) (w : World) (h : NetIs 55 37 w b v nd rm l) (hn : 0 ≤ nd) (hn2 : nd ≤ 100) (hr : rm ≤ 1000) (hl : l.length ≤ 1000) (i : Int) :
    Calls Try.prog 15 #[.pointer (some ⟨b, 0, none⟩), .int .i64 i] w (Rets fun r w' => r = .int .i64 (doubleC nd rm l i) ∧ NetStep 55 37 w w' b v nd rm (doubleL nd rm l i)) := by
  unfold doubleC doubleL
  cases hb : lookB l i with
  | true =>
    refine double_send b v nd rm l w h hl i hb _ fun w1 hu => ?_
    refine (send_any b v nd rm l (lookP l i) w1 (h.to hu).1 hn hn2 hr).mono fun e w' he => ?_
    cases e with
    | returned r => exact ⟨he.1, he.2.after hu⟩
    | _ => exact he.elim
  | false =>
    refine (double_none b v nd rm l w h hl i hb).mono fun e w' he => ?_
    cases e with
    | returned r => exact ⟨he.1, (h.to he.2).step⟩
    | _ => exact he.elim
/-- New -/
theorem new_arg (nd rm : Int) (w : World) (h : ¬ (1 ≤ nd ∧ nd ≤ 100 ∧ 1 ≤ rm ∧ rm ≤ 1000)) :
    Calls Try.prog 8 #[.int .i64 nd, .int .i64 rm] w (Rets fun r w' => r = .tuple #[.pointer none, .int .i64 1] ∧ Upd0 w w') := by
  have h' : wtn nd 1 100 = false ∨ (wtn nd 1 100 = true ∧ wtn rm 1 1000 = false) := by
    simp only [wtn, Bool.and_eq_false_iff, decide_eq_false_iff_not, Bool.and_eq_true, decide_eq_true_eq]; omega
  clear h
  rcases h' with h1 | ⟨h1, h2⟩
  all_goals
    go_enter Try.func8, Try.ntmps8
    go_wp2_with (first
      | (with_reducible refine wp_serial (by kernel_rfl) (by kernel_rfl) (by (repeat (first | (with_reducible apply NoBad.then) | (with_reducible apply NoBad.inBlock) | (with_reducible exact NoBad.rets))); done) ?_)
      | (go_at_call 22; refine (within_any _ _ _ _).use ?_; rintro v w' ⟨rfl, rfl⟩)
      | fail)
    go_ret2
    exact ⟨rfl, (by (repeat (first | exact Upd.refl _ _ | assumption | apply Upd.drew | apply Upd.alloc | (refine Upd.setCell ?_ (fun h => absurd h (by first | exact Nat.lt_irrefl _ | (simp only []; omega))) _))); done)⟩
theorem new_ok (nd rm : Int) (w : World) (h : 1 ≤ nd ∧ nd ≤ 100 ∧ 1 ≤ rm ∧ rm ≤ 1000) :
    Calls Try.prog 8 #[.int .i64 nd, .int .i64 rm] w (Rets fun r w' => ∃ b, r = .tuple #[.pointer (some ⟨b, 0, none⟩), .int .i64 0] ∧ w.heap.size ≤ b ∧ NetIs 55 37 w' b (.slice none 0 0) nd rm [] ∧ Upd0 w w') := by
  have h1 : wtn nd 1 100 = true := by simp [wtn]; omega
  have h2 : wtn rm 1 1000 = true := by simp [wtn]; omega
  clear h
  go_enter Try.func8, Try.ntmps8
  go_wp2_with (first
    | (with_reducible refine wp_serial (by kernel_rfl) (by kernel_rfl) (by (repeat (first | (with_reducible apply NoBad.then) | (with_reducible apply NoBad.inBlock) | (with_reducible exact NoBad.rets))); done) ?_)
    | (go_at_call 22; refine (within_any _ _ _ _).use ?_; rintro v w' ⟨rfl, rfl⟩)
    | fail)
  go_ret2
  exact ⟨w.heap.size, rfl, Nat.le_refl _, ⟨heap_alloc_new w _, World.ownsRow_nil _ _ _ _, by simp [Value.ownBlock]⟩, (by (repeat (first | exact Upd.refl _ _ | assumption | apply Upd.drew | apply Upd.alloc | (refine Upd.setCell ?_ (fun h => absurd h (by first | exact Nat.lt_irrefl _ | (simp only []; omega))) _))); done)⟩
end Go.Proofs.Ytfhaehkofeiobaa
