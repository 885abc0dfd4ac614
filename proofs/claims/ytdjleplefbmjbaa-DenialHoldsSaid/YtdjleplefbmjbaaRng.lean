/-
  A range over an iterator of one's own that keeps its state in a cell (block cb): the statement's law, out of the machine's steps.
-/
import Derived.RangeFuncRecord
import Derived.RangeFuncCalls
import Derived.RangeFuncSeq
import Derived.Shelf.Abstract
import Derived.Test.YtdjleplefbmjbaaMem
namespace Go.Proofs.Ytdjleplefbmjbaa
open Go.RowKit Go.Shelf
set_option linter.unusedSimpArgs false
set_option linter.unusedVariables false
section
variable {F : Fence} {n : Nat} {P : Program}
theorem Upd.putObj {S : Nat → Prop} {a w : World} (h : Upd S a w) {l : Nat} (hl : l < a.heap.size → S l) (o : Obj) : Upd S a (w.putObj l o) :=
  ⟨h.os, h.tape, h.output, by rw [World.putObj_size]; exact h.size, fun k hk hs => by
    rw [World.putObj_heap_other (fun e => hs (by subst e; exact hl hk))]; exact h.keep k hk hs⟩
/-- how a round's body may be left: it has kept blocks cb, d, d + 1 -/
structure Kept3 (cb d : Nat) (W W' : World) : Prop where
  size : W.heap.size ≤ W'.heap.size
  k1 : W'.heap[cb]? = W.heap[cb]?
  k2 : W'.heap[d]? = W.heap[d]?
  k3 : W'.heap[d + 1]? = W.heap[d + 1]?
def cellPost {α : Type} (cb d : Nat) (I : List α → World → Prop) (Ix : Code → List α → World → Prop) (xs : List α) (W : World) : Exit → Act → World → Prop
  | .normal, _, W' => Kept3 cb d W W' ∧ I xs W'
  | .ret, _, W' => Kept3 cb d W W' ∧ Ix .ret xs W'
  | _, _, _ => False
/-- the iterator's contract: what it does to the world beside its rounds is: a store into block cb -/
def SeqCell {α : Type} (F : Fence) (n : Nat) (P : Program) (gf cb : Nat) (lb : Array Value) (encs : α → Array Value) (xs0 : List α) (w : World) : Prop :=
  ∀ (l : Nat) (J Jx : List α → World → Prop) (W : World), Upd0 w W →
    (∀ s A v, J s A → J s (A.setCell ⟨cb, 0, none⟩ v)) →
    (∀ pre x A, (pre ++ [x]) <+: xs0 → J pre A → YieldAt F (n - 1) P l (encs x) A fun e A' => (e = .returned (.bool true) ∧ J (pre ++ [x]) A' ∧ A'.heap[cb]? = A.heap[cb]?) ∨ (e = .returned (.bool false) ∧ Jx (pre ++ [x]) A')) →
    J [] W → CallsIn F n P gf (#[.func (.yield l) #[] #[]] ++ lb) W fun e A => (∃ v, e = .returned v) ∧ (J xs0 A ∨ (∃ pre, pre <+: xs0 ∧ Jx pre A))
theorem wpIn_range_cell {α : Type} {g : Operand} {ps : Array Tmp} {assign body : Code} {Q : Exit → Act → World → Prop} {a : Act} {w : World}
    (hro : F.round = none) (h1 : 1 ≤ n) {gf cb : Nat} {lb : Array Value} (hg : a.eval g = .func (.func gf) #[] lb) (hFg : F.fn gf) (eg : ∀ args w, (callFunc gf args).run P w = .ok (.enter gf args) w)
    {encs : α → Array Value} {xs0 : List α} (hseq : SeqCell F (n - 1) P gf cb lb encs xs0 w) (hcb : cb < w.heap.size) (hps : ∀ x, (encs x).size = ps.size)
    (I : List α → World → Prop) (Ix : Code → List α → World → Prop)
    (hI : ∀ s A A', I s A → Upd (fun k => k = cb ∨ k = w.heap.size ∨ k = w.heap.size + 1) A A' → I s A')
    (hIx : ∀ c s A A', Ix c s A → Upd (fun k => k = cb ∨ k = w.heap.size ∨ k = w.heap.size + 1) A A' → Ix c s A')
    (h0 : ∀ W, Upd0 w W → I [] W) (a₁ : α → Act)
    (hassign : ∀ (l : Nat) (x : α) (W : World) (K : Act → World → Prop), K (a₁ x) W →
      assign.wpIn (F.inRound l) (n - 1 - 1) P (Exit.then K (fun _ _ _ => False)) { tmps := (ps.zip (encs x)).foldl (fun t (p, v) => t.setIfInBounds p v) a.tmps, defers := [] } W)
    (hbody : ∀ (l : Nat) (pre : List α) (x : α) (W : World), w.heap.size + 1 < W.heap.size → (pre ++ [x]) <+: xs0 → I pre W → body.wpIn (F.inRound l) (n - 1 - 1) P (cellPost cb w.heap.size I Ix (pre ++ [x]) W) (a₁ x) W)
    (hdone : ∀ (W : World), I xs0 W → W.heap[w.heap.size]? = some (.deferred (some [])) → Q .normal { a with defers := { target := .collected w.heap.size, args := #[] } :: a.defers } W)
    (hstop : ∀ (c : Code) (pre : List α) (W : World), pre <+: xs0 → Ix c pre W → W.heap[w.heap.size]? = some (.deferred (some [])) → c.wpIn F n P Q { a with defers := { target := .collected w.heap.size, args := #[] } :: a.defers } W) :
    (Code.rangeFunc g ps assign body).wpIn F n P Q a w := by
  refine wpIn_rangeFunc fun fn hfn => ?_
  rw [hro]
  obtain ⟨rc, hrc⟩ : ∃ rc : LoopState → Option Code → Loop, rc = fun st pe => { state := st, pending := pe, fn, tmps := a.tmps, params := ps, assign, body, defers := w.heap.size } := ⟨_, rfl⟩
  obtain ⟨W1, hW1⟩ : ∃ W1, (w.alloc (.deferred (some []))).alloc (.loop (rc .ready none)) = W1 := ⟨_, rfl⟩
  have hu1 : Upd0 w W1 := by rw [← hW1]; exact ((Upd.refl _ w).alloc _).alloc _
  have hL1 : W1.heap[w.heap.size + 1]? = some (.loop (rc .ready none)) := by
    rw [← hW1]; exact alloc_last _ _ _ (by simp)
  have hD1 : W1.heap[w.heap.size]? = some (.deferred (some [])) := by
    rw [← hW1]; exact blk_alloc (alloc_last _ _ _ rfl)
  have hs1 : w.heap.size + 1 < W1.heap.size := blk_lt hL1
  refine ⟨w.heap.size + 1, [{ target := .collected w.heap.size, args := #[] }], W1, { target := .fn (.func gf) lb, args := #[.func (.yield (w.heap.size + 1)) #[] #[]] }, W1, gf,
    #[.func (.yield (w.heap.size + 1)) #[] #[]] ++ lb, W1, ?_, ?_, ?_, ?_, fun _ => h1, ?_⟩
  · rw [← hW1, hrc]; exact run_enterLoop_outer _ _ _ _ _
  · simp only [resolve, hg]
    simp [go_sem]
  · intro f' hf'; simp [Target.leads] at hf'; subst hf'; exact hFg
  · simp [invoke, go_sem, eg]
  · have hn1 : ¬ w.heap.size = w.heap.size + 1 := by omega
    have hn2 : ¬ w.heap.size = cb := by omega
    have hn3 : ¬ w.heap.size + 1 = cb := by omega
    refine (hseq (w.heap.size + 1)
      (fun pre W => I pre W ∧ W.heap[w.heap.size + 1]? = some (.loop (rc .ready none)) ∧ W.heap[w.heap.size]? = some (.deferred (some [])))
      (fun pre W => Ix .ret pre W ∧ W.heap[w.heap.size + 1]? = some (.loop (rc .done (some .ret))) ∧ W.heap[w.heap.size]? = some (.deferred (some [])))
      W1 hu1 (fun s A v ⟨i1, i2, i3⟩ => ⟨hI s A _ i1 ((Upd.refl _ A).setCell (fun _ => .inl rfl) v), by rw [Below.heap_setCell _ _ _ _ hn3]; exact i2, by rw [Below.heap_setCell _ _ _ _ hn2]; exact i3⟩)
      ?_ ⟨h0 W1 hu1, hL1, hD1⟩).mono ?_
    · rintro pre x W hpx ⟨hi, hl, hd⟩
      have hlt := blk_lt hl
      have hy := run_yield (P := P) (args := encs x) hl (by rw [hrc]; exact hps x)
      rw [hrc] at hy
      refine ⟨fn, _, assign, body, hy, roundIn_of_wpIn hfn (hassign _ x W _ ⟨_, run_beginRound hl (by rw [hrc]), ?_⟩)⟩
      obtain ⟨W2, hW2⟩ : ∃ W2, W.putObj (w.heap.size + 1) (.loop { rc .ready none with state := .busy }) = W2 := ⟨_, rfl⟩
      rw [hW2]
      have hu2 : Upd (fun k => k = cb ∨ k = w.heap.size ∨ k = w.heap.size + 1) W W2 := by rw [← hW2]; exact (Upd.refl _ W).putObj (fun _ => .inr (.inr rfl)) _
      have hl2 : W2.heap[w.heap.size + 1]? = some (.loop { rc .ready none with state := .busy }) := by rw [← hW2]; exact World.putObj_heap_same hlt
      have hd2 : W2.heap[w.heap.size]? = some (.deferred (some [])) := by rw [← hW2, World.putObj_heap_other hn1]; exact hd
      have hc2 : W2.heap[cb]? = W.heap[cb]? := by rw [← hW2, World.putObj_heap_other (fun e => hn3 e.symm)]
      have hs2 : w.heap.size + 1 < W2.heap.size := blk_lt hl2
      refine wpIn_mono (hbody _ pre x W2 hs2 hpx (hI _ _ _ hi hu2)) ?_
      rintro e a3 W3 hp
      cases e with
      | normal =>
        obtain ⟨hk, hi3⟩ := hp
        have hl3 : W3.heap[w.heap.size + 1]? = some (.loop { rc .ready none with state := .busy }) := hk.k3.trans hl2
        refine ⟨_, _, run_endRound (P := P) none hl3, .inl ⟨rfl, ⟨hI _ _ _ hi3 ((Upd.refl _ W3).putObj (fun _ => .inr (.inr rfl)) _), ?_, ?_⟩, ?_⟩⟩
        · rw [World.putObj_heap_same (blk_lt hl3)]; rw [hrc]; rfl
        · rw [World.putObj_heap_other hn1]; exact hk.k2.trans hd2
        · rw [World.putObj_heap_other (fun e => hn3 e.symm)]; exact hk.k1.trans hc2
      | ret =>
        obtain ⟨hk, hi3⟩ := hp
        have hl3 : W3.heap[w.heap.size + 1]? = some (.loop { rc .ready none with state := .busy }) := hk.k3.trans hl2
        refine ⟨_, _, run_endRound (P := P) (some .ret) hl3, .inr ⟨rfl, hIx _ _ _ _ hi3 ((Upd.refl _ W3).putObj (fun _ => .inr (.inr rfl)) _), ?_, ?_⟩⟩
        · rw [World.putObj_heap_same (blk_lt hl3)]; rw [hrc]; rfl
        · rw [World.putObj_heap_other hn1]; exact hk.k2.trans hd2
      | exit id => exact hp.elim
      | goto t => exact hp.elim
      | panic ch => exact hp.elim
      | outgrown => exact hp.elim
    · rintro e W2 ⟨⟨v, rfl⟩, (⟨hi, hl, hd⟩ | ⟨pre, hSp, hi, hl, hd⟩)⟩
      · exact ⟨none, _, by have := run_endLoop (P := P) hl (by rw [hrc]; simp); rw [hrc] at this; exact this, hdone _ (hI _ _ _ hi ((Upd.refl _ W2).putObj (fun _ => .inr (.inr rfl)) _)) (by rw [World.putObj_heap_other hn1]; exact hd)⟩
      · exact ⟨some .ret, _, by have := run_endLoop (P := P) hl (by rw [hrc]; simp); rw [hrc] at this; exact this, hstop .ret pre _ hSp (hIx _ _ _ _ hi ((Upd.refl _ W2).putObj (fun _ => .inr (.inr rfl)) _)) (by rw [World.putObj_heap_other hn1]; exact hd)⟩
end
end Go.Proofs.Ytdjleplefbmjbaa
