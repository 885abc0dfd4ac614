/-
  Two networks side by side, and blocks that are known whole: what each call leaves of them.
-/
import Derived.Test.YtfhaehkofeiobaaNetU
namespace Go.Proofs.Ytfhaehkofeiobaa
open Go.RowKit
set_option linter.unusedSimpArgs false
set_option linter.unusedVariables false
/-- two networks with these lists, and blocks that hold these objects -/
def Tw (w0 w : World) (os : List (Nat × Obj)) (b b' : Nat) (nd rm : Int) (l l' : List Pk) : Prop :=
  Two 55 37 31 33 w0 w (os.map (·.1)) b b' nd rm l l' ∧ ∀ p ∈ os, w.heap[p.1]? = some p.2
section
variable {w0 w w' : World} {os : List (Nat × Obj)} {b b' : Nat} {nd rm : Int} {l l' m : List Pk}
theorem Tw.up (h : Tw w0 w os b b' nd rm l l') (k : Upd0 w w') : Tw w0 w' os b b' nd rm l l' :=
  ⟨h.1.up k, fun p hp => k.block (fun h => h) (h.2 p hp)⟩
theorem Tw.upd (h : Tw w0 w os b b' nd rm l l') : Upd0 w0 w := h.1.upd
theorem Tw.lt (h : Tw w0 w os b b' nd rm l l') : b < w.heap.size ∧ w0.heap.size ≤ b ∧ b' < w.heap.size ∧ w0.heap.size ≤ b' := h.1.lt
theorem Tw.add (h : Tw w0 w os b b' nd rm l l') (k : Upd0 w w') {n : Nat} {o : Obj} (hn : w'.heap[n]? = some o) (hz : w.heap.size ≤ n) : Tw w0 w' ((n, o) :: os) b b' nd rm l l' := by
  refine ⟨h.1.new k _ fun c hc => ?_, fun p hp => ?_⟩
  · rcases List.mem_cons.1 hc with rfl | hc
    · exact .inr ⟨hz, blk_lt hn⟩
    · exact .inl hc
  · rcases List.mem_cons.1 hp with rfl | hp
    · exact hn
    · exact k.block (fun h => h) (h.2 p hp)
theorem Tw.drop (h : Tw w0 w os b b' nd rm l l') : Tw w0 w [] b b' nd rm l l' :=
  ⟨h.1.new (Upd.refl _ _) _ (fun c hc => by cases hc), fun p hp => by cases hp⟩
theorem Tw.one (h : Tw w0 w os b b' nd rm l l') : NetAt 55 37 w0 w (os.map (·.1)) b nd rm l := h.1.one
theorem Tw.two (h : Tw w0 w os b b' nd rm l l') : NetAt 31 33 w0 w (os.map (·.1)) b' nd rm l' := h.1.swap.one
theorem Tw.kept (h : ∀ p ∈ os, w.heap[p.1]? = some p.2) (k : Kept w0 (os.map (·.1)) w w') : ∀ p ∈ os, w'.heap[p.1]? = some p.2 :=
  fun p hp => (k.keep p.1 (List.mem_map_of_mem hp)).trans (h p hp)
theorem Tw.step (h : Tw w0 w os b b' nd rm l l') {f : FuncId} {args : Array Value} {ρ : Value → Prop} (P : Program)
    (hc : ∀ v, NetIs 55 37 w b v nd rm l → Calls P f args w (Rets fun r w' => ρ r ∧ NetStep 55 37 w w' b v nd rm m)) :
    Calls P f args w (Rets fun r w' => ρ r ∧ Tw w0 w' os b b' nd rm m l') :=
  (h.1.step P hc).turn fun r w' ⟨h1, h2, h3⟩ => ⟨h1, h2, Tw.kept h.2 h3⟩
theorem Tw.rstep (h : Tw w0 w os b b' nd rm l l') {f : FuncId} {args : Array Value} {ρ : Value → Prop} (P : Program)
    (hc : ∀ v, NetIs 31 33 w b' v nd rm l' → Calls P f args w (Rets fun r w' => ρ r ∧ NetStep 31 33 w w' b' v nd rm m)) :
    Calls P f args w (Rets fun r w' => ρ r ∧ Tw w0 w' os b b' nd rm l m) :=
  (h.1.swap.step P hc).turn fun r w' ⟨h1, h2, h3⟩ => ⟨h1, h2.swap, Tw.kept h.2 h3⟩
end
theorem sendT {w0 w : World} {os : List (Nat × Obj)} {b b' : Nat} {nd rm : Int} {l l' : List Pk} (p : Pk) (h : Tw w0 w os b b' nd rm l l') (hn : 0 ≤ nd) (hn2 : nd ≤ 100) (hr : rm ≤ 1000) :
    Calls Try.prog 10 #[.pointer (some ⟨b, 0, none⟩), p.val] w (Rets fun r w' => r = .int .i64 (sendC nd rm l p) ∧ Tw w0 w' os b b' nd rm  (sendL nd rm l p) l') :=
  h.step _ fun v h1 => send_any b v nd rm l p w h1 hn hn2 hr
theorem lookT {w0 w : World} {os : List (Nat × Obj)} {b b' : Nat} {nd rm : Int} {l l' : List Pk} (h : Tw w0 w os b b' nd rm l l') (hl : l.length ≤ 1000) (i : Int) :
    Calls Try.prog 19 #[.pointer (some ⟨b, 0, none⟩), .int .i64 i] w (Rets fun r w' => r = .tuple #[(lookP l i).val, .bool (lookB l i)] ∧ Tw w0 w' os b b' nd rm l l' ∧ Upd0 w w') :=
  (lookA h.one hl i).turn fun r w' h1 => ⟨h1.1, h.up h1.2, h1.2⟩
theorem takeT {w0 w : World} {os : List (Nat × Obj)} {b b' : Nat} {nd rm : Int} {l l' : List Pk} (h : Tw w0 w os b b' nd rm l l') (hl : l.length ≤ 1000) (i : Int) :
    Calls Try.prog 12 #[.pointer (some ⟨b, 0, none⟩), .int .i64 i] w (Rets fun r w' => r = .tuple #[(lookP l i).val, .bool (lookB l i)] ∧ Tw w0 w' os b b' nd rm  (takeL l i) l') :=
  h.step _ fun v h1 => take_any b v nd rm l w h1 hl i
theorem doubleT {w0 w : World} {os : List (Nat × Obj)} {b b' : Nat} {nd rm : Int} {l l' : List Pk} (h : Tw w0 w os b b' nd rm l l') (hn : 0 ≤ nd) (hn2 : nd ≤ 100) (hr : rm ≤ 1000) (hl : l.length ≤ 1000) (i : Int) :
    Calls Try.prog 15 #[.pointer (some ⟨b, 0, none⟩), .int .i64 i] w (Rets fun r w' => r = .int .i64 (doubleC nd rm l i) ∧ Tw w0 w' os b b' nd rm  (doubleL nd rm l i) l') :=
  h.step _ fun v h1 => double_any b v nd rm l w h1 hn hn2 hr hl i
theorem clearT {w0 w : World} {os : List (Nat × Obj)} {b b' : Nat} {nd rm : Int} {l l' : List Pk} (h : Tw w0 w os b b' nd rm l l') (hl : l.length ≤ 1000) (node : Int) :
    Calls Try.prog 17 #[.pointer (some ⟨b, 0, none⟩), .int .i64 node] w (Rets fun r w' => r = .int .i64 ((l.length : Int) - (keepL node l).length) ∧ Tw w0 w' os b b' nd rm  (keepL node l) l') :=
  h.step _ fun v h1 => clear_any b v nd rm l w h1 hl node
theorem rsendT {w0 w : World} {os : List (Nat × Obj)} {b b' : Nat} {nd rm : Int} {l l' : List Pk} (p : Pk) (h : Tw w0 w os b b' nd rm l l') (hn : 0 ≤ nd) (hn2 : nd ≤ 100) (hr : rm ≤ 1000) :
    Calls Try.prog 11 #[.pointer (some ⟨b', 0, none⟩), p.val] w (Rets fun r w' => r = .int .i64 (sendC nd rm l' p) ∧ Tw w0 w' os b b' nd rm l (sendL nd rm l' p) ) :=
  h.rstep _ fun v h1 => rsend_any b' v nd rm l' p w h1 hr
theorem rlookT {w0 w : World} {os : List (Nat × Obj)} {b b' : Nat} {nd rm : Int} {l l' : List Pk} (h : Tw w0 w os b b' nd rm l l') (hl : l'.length ≤ 1000) (i : Int) :
    Calls Try.prog 20 #[.pointer (some ⟨b', 0, none⟩), .int .i64 i] w (Rets fun r w' => r = .tuple #[(lookP l' i).val, .bool (lookB l' i)] ∧ Tw w0 w' os b b' nd rm l l' ∧ Upd0 w w') :=
  (rlookA h.two hl i).turn fun r w' h1 => ⟨h1.1, h.up h1.2, h1.2⟩
theorem rtakeT {w0 w : World} {os : List (Nat × Obj)} {b b' : Nat} {nd rm : Int} {l l' : List Pk} (h : Tw w0 w os b b' nd rm l l') (hl : l'.length ≤ 1000) (i : Int) :
    Calls Try.prog 13 #[.pointer (some ⟨b', 0, none⟩), .int .i64 i] w (Rets fun r w' => r = .tuple #[(lookP l' i).val, .bool (lookB l' i)] ∧ Tw w0 w' os b b' nd rm l (takeL l' i) ) :=
  h.rstep _ fun v h1 => rtake_any b' v nd rm l' w h1 hl i
theorem rdoubleT {w0 w : World} {os : List (Nat × Obj)} {b b' : Nat} {nd rm : Int} {l l' : List Pk} (h : Tw w0 w os b b' nd rm l l') (hn : 0 ≤ nd) (hn2 : nd ≤ 100) (hr : rm ≤ 1000) (hl : l'.length ≤ 1000) (i : Int) :
    Calls Try.prog 16 #[.pointer (some ⟨b', 0, none⟩), .int .i64 i] w (Rets fun r w' => r = .int .i64 (doubleC nd rm l' i) ∧ Tw w0 w' os b b' nd rm l (doubleL nd rm l' i) ) :=
  h.rstep _ fun v h1 => rdouble_any b' v nd rm l' w h1 hr hl i
theorem rclearT {w0 w : World} {os : List (Nat × Obj)} {b b' : Nat} {nd rm : Int} {l l' : List Pk} (h : Tw w0 w os b b' nd rm l l') (hl : l'.length ≤ 1000) (node : Int) :
    Calls Try.prog 18 #[.pointer (some ⟨b', 0, none⟩), .int .i64 node] w (Rets fun r w' => r = .int .i64 ((l'.length : Int) - (keepL node l').length) ∧ Tw w0 w' os b b' nd rm l (keepL node l') ) :=
  h.rstep _ fun v h1 => rclear_any b' v nd rm l' w h1 hl node
theorem lenT {w0 w : World} {os : List (Nat × Obj)} {b b' : Nat} {nd rm : Int} {l l' : List Pk} (h : Tw w0 w os b b' nd rm l l') :
    Calls Try.prog 21 #[.pointer (some ⟨b, 0, none⟩)] w (Rets fun r w' => r = .int .i64 l.length ∧ w = w') := lenA h.one
theorem Tw.start {w0 w w' : World} {b b' : Nat} {nd rm : Int} (h : NetAt 55 37 w0 w [] b nd rm []) (k : Upd0 w w') (hz : w.heap.size ≤ b')
    (hb : w'.heap[b']? = some (.cells #[.int .i64 nd, .int .i64 rm, .slice none 0 0] 31 (0, 0))) : Tw w0 w' [] b b' nd rm [] [] := by
  obtain ⟨v, h⟩ := h
  have hf := fun k (hk : foot b v k) => h.foot_lt hk
  have h0 := h.2.2.2.1
  have h1 := h.new k (C' := fun k => k ∈ ([] : List Nat) ∨ foot b' (.slice none 0 0) k) (fun n hn => by
    rcases hn with hn | hn | hn
    · cases hn
    · subst hn; exact .inr ⟨hz, blk_lt hb⟩
    · simp [Value.ownBlock] at hn)
  refine ⟨⟨v, .slice none 0 0, h1, ⟨⟨hb, by simpa [pks] using owns_none w', by simp [Value.ownBlock]⟩, Nat.le_trans h0.size hz, fun k hk => by simp [Value.ownBlock] at hk, Upd.trans h0 k (fun _ _ h => h), fun n hn => ?_⟩⟩, fun p hp => by cases hp⟩
  rcases hn with hn | hn
  · cases hn
  · have := hf n hn
    refine ⟨Nat.lt_of_lt_of_le this.1 k.size, fun e => ?_⟩
    rcases e with rfl | e
    · omega
    · simp [Value.ownBlock] at e
/-- the reference's list, read by the law itself -/
theorem Tw.cellL {w0 w : World} {os : List (Nat × Obj)} {b b' : Nat} {nd rm : Int} {l l' : List Pk} (h : Tw w0 w os b b' nd rm l l') : ∃ ao cap, w.cell? ⟨b', 2, none⟩ = some (.slice ao l'.length cap) := by
  obtain ⟨v, h⟩ := h.two
  obtain ⟨ao, cap, rfl⟩ := ownsRow_slice h.1.row
  exact ⟨ao, cap, by rw [blk_cell h.1.blk]; rfl⟩
theorem five {w : World} {b : Nat} {a0 a1 a2 a3 a4 : Value} {t : TypeId} (h : w.heap[b]? = some (.cells #[a0, a1, a2, a3, a4] t (0, 0))) : w.cell? ⟨b, 0, none⟩ = some a0 ∧ w.cell? ⟨b, 1, none⟩ = some a1 ∧ w.cell? ⟨b, 2, none⟩ = some a2 ∧ w.cell? ⟨b, 3, none⟩ = some a3 ∧ w.cell? ⟨b, 4, none⟩ = some a4 := by
  refine ⟨?_, ?_, ?_, ?_, ?_⟩ <;> rw [blk_cell h] <;> rfl
theorem three {w : World} {b : Nat} {a0 a1 a2 : Value} {t : TypeId} (h : w.heap[b]? = some (.cells #[a0, a1, a2] t (0, 0))) : w.cell? ⟨b, 0, none⟩ = some a0 ∧ w.cell? ⟨b, 1, none⟩ = some a1 ∧ w.cell? ⟨b, 2, none⟩ = some a2 := by
  refine ⟨?_, ?_, ?_⟩ <;> rw [blk_cell h] <;> rfl
end Go.Proofs.Ytfhaehkofeiobaa
