/-
  Networks that are the call's own: contracts in one shape; live.
-/
import Derived.Test.YtfhaehkofeiobaaNetT
namespace Go.Proofs.Ytfhaehkofeiobaa
open Go.RowKit
set_option linter.unusedSimpArgs false
set_option linter.unusedVariables false

theorem _root_.Go.Calls.turn {P : Program} {f : FuncId} {args : Array Value} {w : World} {φ ψ : Value → World → Prop} (h : Calls P f args w (Rets φ)) (k : ∀ v w', φ v w' → ψ v w') : Calls P f args w (Rets ψ) :=
  h.mono fun e w' he => by
    cases e with
    | returned r => exact k r w' he
    | _ => exact he.elim
/-- a network of the call's own, and blocks C that are none of its -/
def NetAtP (T E : TypeId) (w0 w : World) (C : Nat → Prop) (b : Nat) (v : Value) (nd rm : Int) (l : List Pk) : Prop :=
  NetIs T E w b v nd rm l ∧ w0.heap.size ≤ b ∧ (∀ k, v.ownBlock = some k → w0.heap.size ≤ k) ∧ Upd0 w0 w ∧ ∀ k, C k → k < w.heap.size ∧ ¬ foot b v k
/-- behind a step the blocks cs are as they were, and all that was there at the start -/
structure Kept (w0 : World) (cs : List Nat) (w w' : World) : Prop where
  size : w.heap.size ≤ w'.heap.size
  keep : ∀ k, k ∈ cs → w'.heap[k]? = w.heap[k]?
  old : Upd0 w0 w
  old' : Upd0 w0 w'
theorem Kept.cell {w0 w w' : World} {cs : List Nat} (h : Kept w0 cs w w') : (∀ k, k ∈ cs → ∀ o, w'.cell? ⟨k, o, none⟩ = w.cell? ⟨k, o, none⟩) ∧ (∀ k, k ∈ cs → ∀ o, w'.frozen? ⟨k, o, none⟩ = w.frozen? ⟨k, o, none⟩) :=
  ⟨fun k hk o => World.cell?_of_block (w := w) (h.keep k hk), fun k hk o => World.frozen?_of_block (w := w) (h.keep k hk)⟩
section
variable {T E T' E' : TypeId} {w0 w w' : World} {b b' : Nat} {v v' : Value} {nd rm nd' rm' : Int} {l m l' : List Pk} {C : Nat → Prop} {cs : List Nat}
theorem NetAtP.foot_lt (h : NetAtP T E w0 w C b v nd rm l) {k : Nat} (hk : foot b v k) : k < w.heap.size ∧ w0.heap.size ≤ k := by
  obtain ⟨h1, h2, h3, h4, h5⟩ := h
  rcases hk with rfl | hk
  · exact ⟨blk_lt h1.blk, h2⟩
  · exact ⟨ownsRow_lt h1.row hk, h3 k hk⟩
theorem NetAtP.up (h : NetAtP T E w0 w C b v nd rm l) (k : Upd0 w w') : NetAtP T E w0 w' C b v nd rm l := by
  obtain ⟨h1, h2, h3, h4, h5⟩ := h
  exact ⟨(h1.to k).1, h2, h3, Upd.trans h4 k (fun _ _ h => h), fun n hn => ⟨Nat.lt_of_lt_of_le (h5 n hn).1 k.size, (h5 n hn).2⟩⟩
theorem NetAtP.new (h : NetAtP T E w0 w C b v nd rm l) (k : Upd0 w w') {C' : Nat → Prop} (hC : ∀ n, C' n → C n ∨ (w.heap.size ≤ n ∧ n < w'.heap.size)) : NetAtP T E w0 w' C' b v nd rm l := by
  have hf := @NetAtP.foot_lt _ _ _ _ _ _ _ _ _ _ h
  obtain ⟨h1, h2, h3, h4, h5⟩ := h.up k
  refine ⟨h1, h2, h3, h4, fun n hn => ?_⟩
  rcases hC n hn with hc | hc
  · exact h5 n hc
  · exact ⟨hc.2, fun e => by have := (hf e).1; omega⟩
theorem NetAtP.step (h : NetAtP T E w0 w C b v nd rm l) (hs : NetStep T E w w' b v nd rm m) : ∃ v', NetAtP T E w0 w' C b v' nd rm m ∧ Upd (fun k => ¬ C k) w w' ∧ (∀ k, foot b v' k → foot b v k ∨ w.heap.size ≤ k) := by
  have hf := @NetAtP.foot_lt _ _ _ _ _ _ _ _ _ _ h
  obtain ⟨h1, h2, h3, h4, h5⟩ := h
  obtain ⟨v', k1, k2, k3⟩ := hs
  refine ⟨v', ⟨k1, h2, fun k hk => ?_, Upd.trans h4 k2 (fun n hn hf => ?_), fun k hk => ⟨Nat.lt_of_lt_of_le (h5 k hk).1 k2.size, fun e => ?_⟩⟩, k2.mono (fun n _ hn hc => (h5 n hc).2 hn), fun k hk => ?_⟩
  · rcases k3 k hk with h | h
    · exact h3 k h
    · exact Nat.le_trans h4.size h
  · rcases hf with rfl | hf
    · omega
    · have := h3 n hf; omega
  · have hc := h5 k hk
    rcases e with rfl | e
    · exact hc.2 (.inl rfl)
    · rcases k3 k e with h | h
      · exact hc.2 (.inr h)
      · omega
  · rcases hk with rfl | hk
    · exact .inl (.inl rfl)
    · exact orMap (k3 k hk) .inr id
/-- one network -/
def NetAt (T E : TypeId) (w0 w : World) (cs : List Nat) (b : Nat) (nd rm : Int) (l : List Pk) : Prop := ∃ v, NetAtP T E w0 w (· ∈ cs) b v nd rm l
theorem NetAt.up (h : NetAt T E w0 w cs b nd rm l) (k : Upd0 w w') : NetAt T E w0 w' cs b nd rm l := by obtain ⟨v, h⟩ := h; exact ⟨v, h.up k⟩
theorem NetAt.upd (h : NetAt T E w0 w cs b nd rm l) : Upd0 w0 w := by obtain ⟨v, h⟩ := h; exact h.2.2.2.1
theorem NetAt.lt (h : NetAt T E w0 w cs b nd rm l) : b < w.heap.size ∧ w0.heap.size ≤ b := by obtain ⟨v, h⟩ := h; exact h.foot_lt (.inl rfl)
theorem NetAt.new (h : NetAt T E w0 w cs b nd rm l) (k : Upd0 w w') (cs' : List Nat) (hc : ∀ c ∈ cs', c ∈ cs ∨ (w.heap.size ≤ c ∧ c < w'.heap.size)) : NetAt T E w0 w' cs' b nd rm l := by
  obtain ⟨v, h⟩ := h; exact ⟨v, h.new k hc⟩
/-- two networks -/
def Two (T E T' E' : TypeId) (w0 w : World) (cs : List Nat) (b b' : Nat) (nd rm : Int) (l l' : List Pk) : Prop :=
  ∃ v v', NetAtP T E w0 w (fun k => k ∈ cs ∨ foot b' v' k) b v nd rm l ∧ NetAtP T' E' w0 w (fun k => k ∈ cs ∨ foot b v k) b' v' nd rm l'
theorem Two.swap (h : Two T E T' E' w0 w cs b b' nd rm l l') : Two T' E' T E w0 w cs b' b nd rm l' l := by obtain ⟨v, v', h, h'⟩ := h; exact ⟨v', v, h', h⟩
theorem Two.up (h : Two T E T' E' w0 w cs b b' nd rm l l') (k : Upd0 w w') : Two T E T' E' w0 w' cs b b' nd rm l l' := by obtain ⟨v, v', h, h'⟩ := h; exact ⟨v, v', h.up k, h'.up k⟩
theorem Two.upd (h : Two T E T' E' w0 w cs b b' nd rm l l') : Upd0 w0 w := by obtain ⟨v, v', h, h'⟩ := h; exact h.2.2.2.1
theorem Two.lt (h : Two T E T' E' w0 w cs b b' nd rm l l') : b < w.heap.size ∧ w0.heap.size ≤ b ∧ b' < w.heap.size ∧ w0.heap.size ≤ b' := by
  obtain ⟨v, v', h, h'⟩ := h
  have h1 := h.foot_lt (.inl rfl); have h2 := h'.foot_lt (.inl rfl); exact ⟨h1.1, h1.2, h2.1, h2.2⟩
theorem Two.new (h : Two T E T' E' w0 w cs b b' nd rm l l') (k : Upd0 w w') (cs' : List Nat) (hc : ∀ c ∈ cs', c ∈ cs ∨ (w.heap.size ≤ c ∧ c < w'.heap.size)) : Two T E T' E' w0 w' cs' b b' nd rm l l' := by
  obtain ⟨v, v', h, h'⟩ := h
  refine ⟨v, v', h.new k fun n hn => ?_, h'.new k fun n hn => ?_⟩
  · rcases hn with hn | hn
    · exact orMap (hc n hn) .inl id
    · exact .inl (.inr hn)
  · rcases hn with hn | hn
    · exact orMap (hc n hn) .inl id
    · exact .inl (.inr hn)
theorem Two.one (h : Two T E T' E' w0 w cs b b' nd rm l l') : NetAt T E w0 w cs b nd rm l := by
  obtain ⟨v, v', ⟨h1, h2, h3, h4, h5⟩, _⟩ := h
  exact ⟨v, h1, h2, h3, h4, fun k hk => h5 k (.inl hk)⟩
theorem NetAtP.kept {w0 : World} (h : NetAtP T E w0 w C b v nd rm l) (h0 : Upd0 w0 w) (hu : Upd (fun k => ¬ C k) w w') (h' : Upd0 w0 w') (hC : ∀ k, k ∈ cs → C k) : Kept w0 cs w w' :=
  ⟨hu.size, fun k hk => hu.keep k (h.2.2.2.2 k (hC k hk)).1 (fun hn => hn (hC k hk)), h0, h'⟩
theorem Two.step (h : Two T E T' E' w0 w cs b b' nd rm l l') {f : FuncId} {args : Array Value} {ρ : Value → Prop} (P : Program)
    (hc : ∀ v, NetIs T E w b v nd rm l → Calls P f args w (Rets fun r w' => ρ r ∧ NetStep T E w w' b v nd rm m)) :
    Calls P f args w (Rets fun r w' => ρ r ∧ Two T E T' E' w0 w' cs b b' nd rm m l' ∧ Kept w0 cs w w') := by
  obtain ⟨v, v', h, h'⟩ := h
  refine (hc v h.1).mono fun e w' he => ?_
  cases e with
  | returned r =>
    refine ⟨he.1, ?_⟩
    obtain ⟨v2, k1, k2, k3⟩ := h.step he.2
    have hf' := @NetAtP.foot_lt _ _ _ _ _ _ _ _ _ _ h'
    have hk := h'
    obtain ⟨g1, g2, g3, g4, g5⟩ := h'
    have hn1 : NetIs T' E' w' b' v' nd rm l' :=
      ⟨k2.block (fun hn => hn (.inr (.inl rfl))) g1.blk, ownsRow_upd g1.row k2 (fun g hg hn => hn (.inr (.inr hg))), g1.ne⟩
    refine ⟨⟨v2, v', k1, hn1, g2, g3, k1.2.2.2.1, fun k hc => ?_⟩, h.kept g4 k2 k1.2.2.2.1 (fun k hk => .inl hk)⟩
    rcases hc with hc | hc
    · exact ⟨Nat.lt_of_lt_of_le (g5 k (.inl hc)).1 k2.size, (g5 k (.inl hc)).2⟩
    · refine ⟨(k1.foot_lt hc).1, fun e => ?_⟩
      exact (k1.2.2.2.2 k (.inr e)).2 hc
  | _ => exact he.elim
theorem NetAt.call (h : NetAt T E w0 w cs b nd rm l) {f : FuncId} {args : Array Value} {ρ : Value → Prop} (P : Program)
    (hc : ∀ v, NetIs T E w b v nd rm l → Calls P f args w (Rets fun r w' => ρ r ∧ NetStep T E w w' b v nd rm m)) :
    Calls P f args w (Rets fun r w' => ρ r ∧ NetAt T E w0 w' cs b nd rm m ∧ Kept w0 cs w w') := by
  obtain ⟨v, h⟩ := h
  refine (hc v h.1).mono fun e w' he => ?_
  cases e with
  | returned r =>
    obtain ⟨v2, k1, k2, k3⟩ := h.step he.2
    exact ⟨he.1, ⟨v2, k1⟩, h.kept h.2.2.2.1 k2 k1.2.2.2.1 (fun k hk => hk)⟩
  | _ => exact he.elim
end
theorem sendA {w0 w : World} {cs : List Nat} {b : Nat} {nd rm : Int} {l : List Pk} (p : Pk) (h : NetAt 55 37 w0 w cs b nd rm l) (hn : 0 ≤ nd) (hn2 : nd ≤ 100) (hr : rm ≤ 1000) :
    Calls Try.prog 10 #[.pointer (some ⟨b, 0, none⟩), p.val] w (Rets fun r w' => r = .int .i64 (sendC nd rm l p) ∧ NetAt 55 37 w0 w' cs b nd rm (sendL nd rm l p) ∧ Kept w0 cs w w') :=
  h.call _ fun v h1 => send_any b v nd rm l p w h1 hn hn2 hr
theorem lookA {w0 w : World} {cs : List Nat} {b : Nat} {nd rm : Int} {l : List Pk} (h : NetAt 55 37 w0 w cs b nd rm l) (hl : l.length ≤ 1000) (i : Int) :
    Calls Try.prog 19 #[.pointer (some ⟨b, 0, none⟩), .int .i64 i] w (Rets fun r w' => r = .tuple #[(lookP l i).val, .bool (lookB l i)] ∧ Upd0 w w') := by
  obtain ⟨v, h⟩ := h
  exact look_any b v nd rm l w h.1 hl i
theorem takeA {w0 w : World} {cs : List Nat} {b : Nat} {nd rm : Int} {l : List Pk} (h : NetAt 55 37 w0 w cs b nd rm l) (hl : l.length ≤ 1000) (i : Int) :
    Calls Try.prog 12 #[.pointer (some ⟨b, 0, none⟩), .int .i64 i] w (Rets fun r w' => r = .tuple #[(lookP l i).val, .bool (lookB l i)] ∧ NetAt 55 37 w0 w' cs b nd rm (takeL l i) ∧ Kept w0 cs w w') :=
  h.call _ fun v h1 => take_any b v nd rm l w h1 hl i
theorem doubleA {w0 w : World} {cs : List Nat} {b : Nat} {nd rm : Int} {l : List Pk} (h : NetAt 55 37 w0 w cs b nd rm l) (hn : 0 ≤ nd) (hn2 : nd ≤ 100) (hr : rm ≤ 1000) (hl : l.length ≤ 1000) (i : Int) :
    Calls Try.prog 15 #[.pointer (some ⟨b, 0, none⟩), .int .i64 i] w (Rets fun r w' => r = .int .i64 (doubleC nd rm l i) ∧ NetAt 55 37 w0 w' cs b nd rm (doubleL nd rm l i) ∧ Kept w0 cs w w') :=
  h.call _ fun v h1 => double_any b v nd rm l w h1 hn hn2 hr hl i
theorem clearA {w0 w : World} {cs : List Nat} {b : Nat} {nd rm : Int} {l : List Pk} (h : NetAt 55 37 w0 w cs b nd rm l) (hl : l.length ≤ 1000) (node : Int) :
    Calls Try.prog 17 #[.pointer (some ⟨b, 0, none⟩), .int .i64 node] w (Rets fun r w' => r = .int .i64 ((l.length : Int) - (keepL node l).length) ∧ NetAt 55 37 w0 w' cs b nd rm (keepL node l) ∧ Kept w0 cs w w') :=
  h.call _ fun v h1 => clear_any b v nd rm l w h1 hl node
theorem rsendA {w0 w : World} {cs : List Nat} {b : Nat} {nd rm : Int} {l : List Pk} (p : Pk) (h : NetAt 31 33 w0 w cs b nd rm l) (hn : 0 ≤ nd) (hn2 : nd ≤ 100) (hr : rm ≤ 1000) :
    Calls Try.prog 11 #[.pointer (some ⟨b, 0, none⟩), p.val] w (Rets fun r w' => r = .int .i64 (sendC nd rm l p) ∧ NetAt 31 33 w0 w' cs b nd rm (sendL nd rm l p) ∧ Kept w0 cs w w') :=
  h.call _ fun v h1 => rsend_any b v nd rm l p w h1 hr
theorem rlookA {w0 w : World} {cs : List Nat} {b : Nat} {nd rm : Int} {l : List Pk} (h : NetAt 31 33 w0 w cs b nd rm l) (hl : l.length ≤ 1000) (i : Int) :
    Calls Try.prog 20 #[.pointer (some ⟨b, 0, none⟩), .int .i64 i] w (Rets fun r w' => r = .tuple #[(lookP l i).val, .bool (lookB l i)] ∧ Upd0 w w') := by
  obtain ⟨v, h⟩ := h
  exact rlook_any b v nd rm l w h.1 hl i
theorem rtakeA {w0 w : World} {cs : List Nat} {b : Nat} {nd rm : Int} {l : List Pk} (h : NetAt 31 33 w0 w cs b nd rm l) (hl : l.length ≤ 1000) (i : Int) :
    Calls Try.prog 13 #[.pointer (some ⟨b, 0, none⟩), .int .i64 i] w (Rets fun r w' => r = .tuple #[(lookP l i).val, .bool (lookB l i)] ∧ NetAt 31 33 w0 w' cs b nd rm (takeL l i) ∧ Kept w0 cs w w') :=
  h.call _ fun v h1 => rtake_any b v nd rm l w h1 hl i
theorem rdoubleA {w0 w : World} {cs : List Nat} {b : Nat} {nd rm : Int} {l : List Pk} (h : NetAt 31 33 w0 w cs b nd rm l) (hn : 0 ≤ nd) (hn2 : nd ≤ 100) (hr : rm ≤ 1000) (hl : l.length ≤ 1000) (i : Int) :
    Calls Try.prog 16 #[.pointer (some ⟨b, 0, none⟩), .int .i64 i] w (Rets fun r w' => r = .int .i64 (doubleC nd rm l i) ∧ NetAt 31 33 w0 w' cs b nd rm (doubleL nd rm l i) ∧ Kept w0 cs w w') :=
  h.call _ fun v h1 => rdouble_any b v nd rm l w h1 hr hl i
theorem rclearA {w0 w : World} {cs : List Nat} {b : Nat} {nd rm : Int} {l : List Pk} (h : NetAt 31 33 w0 w cs b nd rm l) (hl : l.length ≤ 1000) (node : Int) :
    Calls Try.prog 18 #[.pointer (some ⟨b, 0, none⟩), .int .i64 node] w (Rets fun r w' => r = .int .i64 ((l.length : Int) - (keepL node l).length) ∧ NetAt 31 33 w0 w' cs b nd rm (keepL node l) ∧ Kept w0 cs w w') :=
  h.call _ fun v h1 => rclear_any b v nd rm l w h1 hl node
theorem lenA {w0 w : World} {cs : List Nat} {b : Nat} {nd rm : Int} {l : List Pk} (h : NetAt 55 37 w0 w cs b nd rm l) :
    Calls Try.prog 21 #[.pointer (some ⟨b, 0, none⟩)] w (Rets fun r w' => r = .int .i64 l.length ∧ w = w') := by
  obtain ⟨v, h⟩ := h
  exact len_any b v nd rm l w h.1
theorem newA {w0 w : World} (nd rm : Int) (h0 : Upd0 w0 w) (h : 1 ≤ nd ∧ nd ≤ 100 ∧ 1 ≤ rm ∧ rm ≤ 1000) :
    Calls Try.prog 8 #[.int .i64 nd, .int .i64 rm] w (Rets fun r w' => ∃ b, r = .tuple #[.pointer (some ⟨b, 0, none⟩), .int .i64 0] ∧ w.heap.size ≤ b ∧ NetAt 55 37 w0 w' [] b nd rm [] ∧ Upd0 w w') :=
  (new_ok nd rm w h).turn fun r w' ⟨b, h1, h2, h3, h4⟩ => ⟨b, h1, h2, ⟨_, h3, Nat.le_trans h0.size h2, (fun k hk => by simp [Value.ownBlock] at hk), Upd.trans h0 h4 (fun _ _ h => h), fun k hk => by cases hk⟩, h4⟩
set_option maxHeartbeats 4000000 in
theorem live_any (w : World) : Calls Try.prog 9 #[] w (Rets fun r w' => r = .bool true ∧ Upd0 w w') := by
  go_enter Try.func9, Try.ntmps9
  go_wp2_with (first
    | (with_reducible refine wp_serial (by kernel_rfl) (by kernel_rfl) (by (repeat (first | (with_reducible apply NoBad.then) | (with_reducible apply NoBad.inBlock) | (with_reducible exact NoBad.rets))); done) ?_)
    | (go_at_call 8; have q1 := h1.out; clear q1; refine (new_arg 0 2 _ (by decide)).use ?_; rintro v w1' ⟨rfl, hu⟩; have h1' := Lib.hid (h1.out.up (Upd.trans (w := w1) (by (repeat (first | exact Upd.refl _ _ | assumption | apply Upd.drew | apply Upd.alloc | (refine Upd.setCell ?_ (fun h => absurd h (by first | exact Nat.lt_irrefl _ | (simp only []; omega))) _))); done) hu (fun _ _ h => h))); clear h1 hu; have h1 := h1'; clear h1')
    | (go_at_call 8; refine (newA (w0 := w) 2 2 (by (repeat (first | exact Upd.refl _ _ | assumption | apply Upd.drew | apply Upd.alloc | (refine Upd.setCell ?_ (fun h => absurd h (by first | exact Nat.lt_irrefl _ | (simp only []; omega))) _))); done) (by decide)).use ?_; rintro v w1 ⟨b, rfl, hb1, hn1, hu1⟩; have h1 := Lib.hid hn1; clear hn1 hu1)
    | (go_at_call 10; have qq := h1.out; clear qq; refine (sendA (w0 := w) (b := b) (nd := 2) (rm := 2) (l := []) ⟨0, 1, ⟨#[97]⟩⟩ (h1.out.up (by (repeat (first | exact Upd.refl _ _ | assumption | apply Upd.drew | apply Upd.alloc | (refine Upd.setCell ?_ (fun h => absurd h (by first | exact Nat.lt_irrefl _ | (simp only []; omega))) _))); done)) (by decide) (by decide) (by decide)).use ?_; rintro v w2 ⟨rfl, hn, -⟩; rw [show sendC 2 2 [] ⟨0, 1, ⟨#[97]⟩⟩ = 0 from rfl]; rw [show sendL 2 2 [] ⟨0, 1, ⟨#[97]⟩⟩ = [⟨0, 1, ⟨#[97]⟩⟩] from rfl] at hn; have h2 := Lib.hid hn; clear hn h1)
    | (go_at_call 10; have qq := h2.out; clear qq; refine (sendA (w0 := w) (b := b) (nd := 2) (rm := 2) (l := [⟨0, 1, ⟨#[97]⟩⟩]) ⟨0, 1, ⟨#[98]⟩⟩ (h2.out.up (by (repeat (first | exact Upd.refl _ _ | assumption | apply Upd.drew | apply Upd.alloc | (refine Upd.setCell ?_ (fun h => absurd h (by first | exact Nat.lt_irrefl _ | (simp only []; omega))) _))); done)) (by decide) (by decide) (by decide)).use ?_; rintro v w3 ⟨rfl, hn, -⟩; rw [show sendC 2 2 [⟨0, 1, ⟨#[97]⟩⟩] ⟨0, 1, ⟨#[98]⟩⟩ = 0 from rfl]; rw [show sendL 2 2 [⟨0, 1, ⟨#[97]⟩⟩] ⟨0, 1, ⟨#[98]⟩⟩ = [⟨0, 1, ⟨#[97]⟩⟩, ⟨0, 1, ⟨#[98]⟩⟩] from rfl] at hn; have h3 := Lib.hid hn; clear hn h2)
    | (go_at_call 15; have qq := h3.out; clear qq; refine (doubleA (w0 := w) (b := b) (nd := 2) (rm := 2) (l := [⟨0, 1, ⟨#[97]⟩⟩, ⟨0, 1, ⟨#[98]⟩⟩]) (h3.out.up (by (repeat (first | exact Upd.refl _ _ | assumption | apply Upd.drew | apply Upd.alloc | (refine Upd.setCell ?_ (fun h => absurd h (by first | exact Nat.lt_irrefl _ | (simp only []; omega))) _))); done)) (by decide) (by decide) (by decide) (by decide) 0).use ?_; rintro v w4 ⟨rfl, hn, -⟩; rw [show doubleC 2 2 [⟨0, 1, ⟨#[97]⟩⟩, ⟨0, 1, ⟨#[98]⟩⟩] 0 = 4 from rfl]; rw [show doubleL 2 2 [⟨0, 1, ⟨#[97]⟩⟩, ⟨0, 1, ⟨#[98]⟩⟩] 0 = [⟨0, 1, ⟨#[97]⟩⟩, ⟨0, 1, ⟨#[98]⟩⟩] from rfl] at hn; have h4 := Lib.hid hn; clear hn h3)
    | (go_at_call 12; have qq := h4.out; clear qq; refine (takeA (w0 := w) (b := b) (nd := 2) (rm := 2) (l := [⟨0, 1, ⟨#[97]⟩⟩, ⟨0, 1, ⟨#[98]⟩⟩]) (h4.out.up (by (repeat (first | exact Upd.refl _ _ | assumption | apply Upd.drew | apply Upd.alloc | (refine Upd.setCell ?_ (fun h => absurd h (by first | exact Nat.lt_irrefl _ | (simp only []; omega))) _))); done)) (by decide) 1).use ?_; rintro v w5 ⟨rfl, hn, -⟩; rw [show lookP [⟨0, 1, ⟨#[97]⟩⟩, ⟨0, 1, ⟨#[98]⟩⟩] 1 = ⟨0, 1, ⟨#[98]⟩⟩ from rfl, show lookB [⟨0, 1, ⟨#[97]⟩⟩, ⟨0, 1, ⟨#[98]⟩⟩] 1 = true from rfl]; rw [show takeL [⟨0, 1, ⟨#[97]⟩⟩, ⟨0, 1, ⟨#[98]⟩⟩] 1 = [⟨0, 1, ⟨#[97]⟩⟩] from rfl] at hn; have h5 := Lib.hid hn; clear hn h4)
    | (go_at_call 15; have qq := h5.out; clear qq; refine (doubleA (w0 := w) (b := b) (nd := 2) (rm := 2) (l := [⟨0, 1, ⟨#[97]⟩⟩]) (h5.out.new (cs' := [w5.heap.size]) (by (repeat (first | exact Upd.refl _ _ | assumption | apply Upd.drew | apply Upd.alloc | (refine Upd.setCell ?_ (fun h => absurd h (by first | exact Nat.lt_irrefl _ | (simp only []; omega))) _))); done) (by simp)) (by decide) (by decide) (by decide) (by decide) 0).use ?_; rintro v w6 ⟨rfl, hn, hk⟩; obtain ⟨c1, c2⟩ := hk.cell; simp only [List.mem_cons, List.not_mem_nil, or_false, forall_eq] at c1 c2; have s1 := hk.size; (try simp only [World.size_alloc, World.size_drew] at s1); rw [show doubleC 2 2 [⟨0, 1, ⟨#[97]⟩⟩] 0 = 0 from rfl]; rw [show doubleL 2 2 [⟨0, 1, ⟨#[97]⟩⟩] 0 = [⟨0, 1, ⟨#[97]⟩⟩, ⟨0, 1, ⟨#[97]⟩⟩] from rfl] at hn; have h6 := Lib.hid hn; clear hn h5)
    | (go_at_call 21; have qq := h6.out; clear qq; refine (lenA (w0 := w) (b := b) (nd := 2) (rm := 2) (l := [⟨0, 1, ⟨#[97]⟩⟩, ⟨0, 1, ⟨#[97]⟩⟩]) (h6.out.up (by (repeat (first | exact Upd.refl _ _ | assumption | apply Upd.drew | apply Upd.alloc | (refine Upd.setCell ?_ (fun h => absurd h (by first | exact Nat.lt_irrefl _ | (simp only []; omega))) _))); done))).use ?_; rintro v w7 ⟨rfl, rfl⟩)
    | (go_at_call 17; have qq := h6.out; clear qq; refine (clearA (w0 := w) (b := b) (nd := 2) (rm := 2) (l := [⟨0, 1, ⟨#[97]⟩⟩, ⟨0, 1, ⟨#[97]⟩⟩]) (h6.out.up (by (repeat (first | exact Upd.refl _ _ | assumption | apply Upd.drew | apply Upd.alloc | (refine Upd.setCell ?_ (fun h => absurd h (by first | exact Nat.lt_irrefl _ | (simp only []; omega))) _))); done)) (by decide) 1).use ?_; rintro v w7 ⟨rfl, hn, hk⟩; rw [show ((([⟨0, 1, ⟨#[97]⟩⟩, ⟨0, 1, ⟨#[97]⟩⟩] : List Pk).length : Int) - (keepL 1 [⟨0, 1, ⟨#[97]⟩⟩, ⟨0, 1, ⟨#[97]⟩⟩]).length) = 2 from rfl]; obtain ⟨g1, g2⟩ := hk.cell; (try simp only [List.mem_cons, List.not_mem_nil, or_false, forall_eq] at g1 g2); have s1 := hk.size; (try simp only [World.size_alloc, World.size_drew] at s1); rw [show keepL 1 [⟨0, 1, ⟨#[97]⟩⟩, ⟨0, 1, ⟨#[97]⟩⟩] = [] from rfl] at hn; have h7 := Lib.hid hn; clear hn h6)
    | (go_at_call 10; have qq := h7.out; clear qq; refine (sendA (w0 := w) (b := b) (nd := 2) (rm := 2) (l := []) ⟨0, 2, ⟨#[120]⟩⟩ (h7.out.up (by (repeat (first | exact Upd.refl _ _ | assumption | apply Upd.drew | apply Upd.alloc | (refine Upd.setCell ?_ (fun h => absurd h (by first | exact Nat.lt_irrefl _ | (simp only []; omega))) _))); done)) (by decide) (by decide) (by decide)).use ?_; rintro v w8 ⟨rfl, hn, -⟩; rw [show sendC 2 2 [] ⟨0, 2, ⟨#[120]⟩⟩ = 1 from rfl]; rw [show sendL 2 2 [] ⟨0, 2, ⟨#[120]⟩⟩ = [] from rfl] at hn; have h8 := Lib.hid hn; clear hn h7)
    | fail)
  go_ret
  exact ⟨rfl, by have := h8.out.upd; (repeat (first | exact Upd.refl _ _ | assumption | apply Upd.drew | apply Upd.alloc | (refine Upd.setCell ?_ (fun h => absurd h (by first | exact Nat.lt_irrefl _ | (simp only []; omega))) _)))⟩
end Go.Proofs.Ytfhaehkofeiobaa
