/-
  Networks in memory, and what the methods of both packages make of them.
-/
import Derived.Test.YtfhaehkofeiobaaMem
import Derived.Test.YtfhaehkofeiobaaRows
namespace Go.Proofs.Ytfhaehkofeiobaa
open Go.RowKit
set_option linter.unusedSimpArgs false
set_option linter.unusedVariables false

structure Pk where
  fr : Int
  to : Int
  by_ : ByteArray
def Pk.val (p : Pk) : Value := .agg #[.int .i64 p.fr, .int .i64 p.to, .string p.by_]
attribute [go_sem] Pk.val
def Pk.cells (p : Pk) : List Value := [.int .i64 p.fr, .int .i64 p.to, .string p.by_]
def pks (l : List Pk) : List Value := l.flatMap Pk.cells
/-- block b is a network whose packets lie in the slice v -/
structure NetIs (T E : TypeId) (w : World) (b : Nat) (v : Value) (nd rm : Int) (l : List Pk) : Prop where
  blk : w.heap[b]? = some (.cells #[.int .i64 nd, .int .i64 rm, v] T (0, 0))
  row : w.ownsRow 0 E 3 v l.length (pks l)
  ne : v.ownBlock ≠ some b
def foot (b : Nat) (v : Value) (k : Nat) : Prop := k = b ∨ v.ownBlock = some k
def wtn (n a b : Int) : Bool := decide (a ≤ n) && decide (n ≤ b)
def okPk (nd : Int) (p : Pk) : Bool := wtn p.fr 0 (nd - 1) && wtn p.to 0 (nd - 1) && wtn p.by_.size 1 65535
def sendC (nd rm : Int) (l : List Pk) (p : Pk) : Int := if okPk nd p then (if rm ≤ l.length then 4 else 0) else 1
def sendL (nd rm : Int) (l : List Pk) (p : Pk) : List Pk := if okPk nd p then (if rm ≤ l.length then l else l ++ [p]) else l
/-- a step of a network: its packets are now these -/
def NetTo (T E : TypeId) (w w' : World) (b : Nat) (v v' : Value) (nd rm : Int) (l : List Pk) : Prop :=
  NetIs T E w' b v' nd rm l ∧ Upd (foot b v) w w' ∧ Fresh w v v'
def NetStep (T E : TypeId) (w w' : World) (b : Nat) (v : Value) (nd rm : Int) (l : List Pk) : Prop := ∃ v', NetTo T E w w' b v v' nd rm l
theorem NetTo.step {T E : TypeId} {w w' : World} {b : Nat} {v v' : Value} {nd rm : Int} {l : List Pk} (h : NetTo T E w w' b v v' nd rm l) : NetStep T E w w' b v nd rm l := ⟨v', h⟩
theorem NetTo.set {T E : TypeId} {w w' : World} {b : Nat} {v v' : Value} {nd rm : Int} {l : List Pk} (h : NetTo T E w w' b v v' nd rm l) {p : Addr} (hp : w.heap.size ≤ p.block) (hb : p.block ≠ b) (hv : v'.ownBlock ≠ some p.block) (x : Value) : NetTo T E w (w'.setCell p x) b v v' nd rm l := by
  obtain ⟨h1, h2, h3⟩ := h
  have hs : Upd (fun k => k = p.block) w' (w'.setCell p x) := (Upd.refl (fun k => k = p.block) w').setCell (fun _ => rfl) _
  exact ⟨⟨hs.block (fun e => hb e.symm) h1.blk, ownsRow_upd h1.row hs (fun g hg e => hv (by rw [hg, e])), h1.ne⟩, h2.setCell (fun h => by omega) _, h3⟩
theorem NetIs.stay {T E : TypeId} {w w' : World} {b : Nat} {v : Value} {nd rm : Int} {l : List Pk} (h : NetIs T E w b v nd rm l) (k : Upd0 w w') : NetStep T E w w' b v nd rm l :=
  ⟨v, ⟨k.block (fun h => h) h.blk, ownsRow_upd h.row k (fun _ _ h => h), h.ne⟩, k.mono (fun _ _ h => h.elim), Fresh.refl _ _⟩
theorem net_put {T E : TypeId} {w w1 : World} {b : Nat} {v v' : Value} {nd rm : Int} {l m : List Pk} (hN : NetIs T E w b v nd rm l) (hu : Upd (fun k => v.ownBlock = some k) w w1) (hrow : w1.ownsRow 0 E 3 v' m.length (pks m)) (hf : Fresh w v v') :
    NetTo T E w (w1.setCell ⟨b, 2, none⟩ v') b v v' nd rm m := by
  have hblk : w1.heap[b]? = some (.cells #[.int .i64 nd, .int .i64 rm, v] T (0, 0)) := hu.block hN.ne hN.blk
  have hne : v'.ownBlock ≠ some b := fun e => by
    rcases hf b e with h | h
    · exact hN.ne h
    · have := blk_lt hN.blk; omega
  have hset : Upd (fun k => k = b) w1 (w1.setCell ⟨b, 2, none⟩ v') := (Upd.refl (fun k => k = b) w1).setCell (p := ⟨b, 2, none⟩) (fun _ => rfl) _
  refine ⟨⟨by simpa using blk_set hblk 2 v', ownsRow_upd hrow hset (fun g hg e => hne (by rw [hg, e])), hne⟩, ?_, hf⟩
  exact (hu.mono (fun n _ h => .inr h)).setCell (fun _ => .inl rfl) _
theorem net_app {T E : TypeId} {w wm w1 : World} {b : Nat} {v v' : Value} {nd rm : Int} {l : List Pk} {p : Pk} (hN : NetIs T E w b v nd rm l) (h0 : Upd0 w wm) (hu : Upd (fun k => v.ownBlock = some k) wm w1) (hrow : w1.ownsRow 0 E 3 v' (l.length + 1) (pks l ++ p.cells)) (hf : Fresh wm v v') :
    NetTo T E w (w1.setCell ⟨b, 2, none⟩ v') b v v' nd rm (l ++ [p]) :=
  net_put hN ((h0.mono (fun _ _ h => h.elim)).trans hu (fun _ _ h => h)) (by simpa [pks] using hrow) (fun k hk => orMap (hf k hk) id (Nat.le_trans h0.size))
theorem net_ext {T E : TypeId} {w w' : World} {b : Nat} {v : Value} {nd rm : Int} {l : List Pk} (h : NetIs T E w b v nd rm l) (k : Ext w w') : NetIs T E w' b v nd rm l :=
  ⟨ext_block k h.blk, ownsRow_ext h.row k, h.ne⟩
theorem pks_len (l : List Pk) : (pks l).length = l.length * 3 := by
  unfold pks; induction l with
  | nil => rfl
  | cons p l ih => simp [List.flatMap_cons, Pk.cells, ih]; omega
theorem pks_one (p : Pk) : pks [p] = p.cells := by simp [pks]
theorem pks_app (l m : List Pk) : pks (l ++ m) = pks l ++ pks m := by simp [pks]
theorem info_pk : (Try.prog.info? 37).map (fun i => (i.zero, i.size, i.bytes)) = some (some (.agg #[.int .i64 0, .int .i64 0, .string .empty]), 3, 32) := by kernel_rfl
theorem info_rpk : (Try.prog.info? 33).map (fun i => (i.zero, i.size, i.bytes)) = some (some (.agg #[.int .i64 0, .int .i64 0, .string .empty]), 3, 32) := by kernel_rfl

theorem within_any (n a b : Int) (w : World) :
    Calls Try.prog 22 #[.int .i64 n, .int .i64 a, .int .i64 b] w (Rets fun v w' => v = .bool (wtn n a b) ∧ w = w') := by
  go_enter Try.func22, Try.ntmps22
  go_wp2
  all_goals go_ret
  · have h : a ≤ n := by assumption
    exact ⟨by simp [wtn, h], rfl⟩
  · have h : n < a := by assumption
    exact ⟨by simp [wtn]; omega, rfl⟩

theorem okPk_no {nd : Int} {p : Pk} (h : okPk nd p = false) : wtn p.fr 0 (nd - 1) = false ∨ (wtn p.fr 0 (nd - 1) = true ∧ wtn p.to 0 (nd - 1) = false) ∨ (wtn p.fr 0 (nd - 1) = true ∧ wtn p.to 0 (nd - 1) = true ∧ wtn p.by_.size 1 65535 = false) := by
  unfold okPk at h
  cases h1 : wtn p.fr 0 (nd - 1) <;> cases h2 : wtn p.to 0 (nd - 1) <;> simp_all
theorem okPk_yes {nd : Int} {p : Pk} (h : okPk nd p = true) : wtn p.fr 0 (nd - 1) = true ∧ wtn p.to 0 (nd - 1) = true ∧ wtn p.by_.size 1 65535 = true := by
  unfold okPk at h
  simpa [and_assoc] using h
/-- Send: what may not be -/
theorem send_arg (b : Nat) (v : Value) (nd rm : Int) (l : List Pk) (p : Pk) (w : World) (h : NetIs 55 37 w b v nd rm l) (hn : 0 ≤ nd) (hn2 : nd ≤ 100) (hp : okPk nd p = false) :
    Calls Try.prog 10 #[.pointer (some ⟨b, 0, none⟩), p.val] w (Rets fun r w' => r = .int .i64 1 ∧ Upd0 w w') := by
  have c0 : w.cell? ⟨b, 0, none⟩ = some (.int .i64 nd) := by simpa using blk_cell h.blk 0
  have hb := blk_lt h.blk
  have hp' := okPk_no hp
  obtain ⟨fr, to, by_⟩ := p
  simp only [Pk.val] at hp' ⊢
  clear hp h
  rcases hp' with h1 | ⟨h1, h2⟩ | ⟨h1, h2, h3⟩
  all_goals
    go_enter Try.func10, Try.ntmps10
    go_wp2_with (first | (with_reducible refine wp_serial (by kernel_rfl) (by kernel_rfl) (by (repeat (first | (with_reducible apply NoBad.then) | (with_reducible apply NoBad.inBlock) | (with_reducible exact NoBad.rets))); done) ?_) | (go_at_call 22; refine (within_any _ _ _ _).use ?_; rintro v w' ⟨rfl, rfl⟩))
    go_ret
    exact ⟨rfl, (by (repeat (first | exact Upd.refl _ _ | assumption | apply Upd.drew | apply Upd.alloc | (refine Upd.setCell ?_ (fun h => absurd h (by first | exact Nat.lt_irrefl _ | (simp only []; omega))) _))); done)⟩
/-- Send: there is no room -/
theorem send_full (b : Nat) (v : Value) (nd rm : Int) (l : List Pk) (p : Pk) (w : World) (h : NetIs 55 37 w b v nd rm l) (hn : 0 ≤ nd) (hn2 : nd ≤ 100) (hp : okPk nd p = true) (hl : rm ≤ l.length) :
    Calls Try.prog 10 #[.pointer (some ⟨b, 0, none⟩), p.val] w (Rets fun r w' => r = .int .i64 4 ∧ Upd0 w w') := by
  obtain ⟨ao, cap, rfl⟩ := ownsRow_slice h.row
  have c0 : w.cell? ⟨b, 0, none⟩ = some (.int .i64 nd) := by simpa using blk_cell h.blk 0
  have c1 : w.cell? ⟨b, 1, none⟩ = some (.int .i64 rm) := by simpa using blk_cell h.blk 1
  have c2 : w.cell? ⟨b, 2, none⟩ = some (.slice ao l.length cap) := by simpa using blk_cell h.blk 2
  have hb := blk_lt h.blk
  obtain ⟨h1, h2, h3⟩ := okPk_yes hp
  obtain ⟨fr, to, by_⟩ := p
  simp only [Pk.val] at h1 h2 h3 ⊢
  clear hp h
  go_enter Try.func10, Try.ntmps10
  go_wp2_with (first | (with_reducible refine wp_serial (by kernel_rfl) (by kernel_rfl) (by (repeat (first | (with_reducible apply NoBad.then) | (with_reducible apply NoBad.inBlock) | (with_reducible exact NoBad.rets))); done) ?_) | (go_at_call 22; refine (within_any _ _ _ _).use ?_; rintro v w' ⟨rfl, rfl⟩))
  go_ret
  exact ⟨rfl, (by (repeat (first | exact Upd.refl _ _ | assumption | apply Upd.drew | apply Upd.alloc | (refine Upd.setCell ?_ (fun h => absurd h (by first | exact Nat.lt_irrefl _ | (simp only []; omega))) _))); done)⟩
/-- Send: the packet is taken -/
theorem send_ok (b : Nat) (v : Value) (nd rm : Int) (l : List Pk) (p : Pk) (w : World) (h : NetIs 55 37 w b v nd rm l) (hn : 0 ≤ nd) (hn2 : nd ≤ 100) (hp : okPk nd p = true) (hl : (l.length : Int) < rm) (hr : rm ≤ 1000) :
    Calls Try.prog 10 #[.pointer (some ⟨b, 0, none⟩), p.val] w (Rets fun r w' => r = .int .i64 0 ∧ NetStep 55 37 w w' b v nd rm (l ++ [p])) := by
  obtain ⟨i0, hi, hz0, hz1, hz2⟩ := info_parts info_pk
  have hN := h
  obtain ⟨ao, cap, rfl⟩ := ownsRow_slice h.row
  have c0 : w.cell? ⟨b, 0, none⟩ = some (.int .i64 nd) := by simpa using blk_cell h.blk 0
  have c1 : w.cell? ⟨b, 1, none⟩ = some (.int .i64 rm) := by simpa using blk_cell h.blk 1
  have c2 : w.cell? ⟨b, 2, none⟩ = some (.slice ao l.length cap) := by simpa using blk_cell h.blk 2
  have hb := blk_lt h.blk
  have hf := blk_frz h.blk 2
  obtain ⟨h1, h2, h3⟩ := okPk_yes hp
  have hrow := Lib.hid h.row
  have hNN := Lib.hid hN
  have hne := Lib.hid (fun e => h.ne e : ¬ (Value.slice ao l.length cap).ownBlock = some b)
  clear hN
  obtain ⟨fr, to, by_⟩ := p
  simp only [Pk.val] at h1 h2 h3 ⊢
  clear hp h
  go_enter Try.func10, Try.ntmps10
  go_wp2_with (first
    | (with_reducible refine wp_serial (by kernel_rfl) (by kernel_rfl) (by (repeat (first | (with_reducible apply NoBad.then) | (with_reducible apply NoBad.inBlock) | (with_reducible exact NoBad.rets))); done) ?_)
    | (go_at_call 22; refine (within_any _ _ _ _).use ?_; rintro v w' ⟨rfl, rfl⟩)
    | (at_builtin; refine wpList_app (w := w) (by (repeat (first | exact Ext.refl _ | assumption | apply Ext.drew | apply Ext.alloc)); done) rfl (.tmp 52) (.tmp 54) 53 rfl 37 i0 _ 3 32 Try.underlying53 hi hz0 hz1 hz2 rfl (by decide) _ _ _ hrow.out rfl _ _ _ [.int .i64 fr, .int .i64 to, .string by_] rfl rfl (alloc_last _ _ _ (by simp)) rfl (by omega) (by omega) ?_; intro ao' cap' w1 hr hu hf; have d2 : w1.cell? ⟨b, 2, none⟩ = some (.slice ao l.length cap) := hu.cell hne.out (by go_simp); have e2 : w1.frozen? ⟨b, 2, none⟩ = false := (hu.frz hne.out (by simp; omega)).trans (by go_simp); have hrow1 := Lib.hid hr; have hu1 := Lib.hid hu; have hf1 := Lib.hid hf; clear hr hu hf))
  go_ret
  exact ⟨rfl, (net_app (p := ⟨fr, to, by_⟩) hNN.out (by (repeat (first | exact Upd.refl _ _ | assumption | apply Upd.drew | apply Upd.alloc | (refine Upd.setCell ?_ (fun h => absurd h (by first | exact Nat.lt_irrefl _ | (simp only []; omega))) _))); done) hu1.out hrow1.out hf1.out).step⟩

end Go.Proofs.Ytfhaehkofeiobaa
