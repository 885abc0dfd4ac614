/-
  The program's writer of messages in memory; word, long, text, flag.
-/
import Derived.Test.YtgdejgfmhndbhaaKh
import Derived.Test.YtgdejgfmhndbhaaKc
import Derived.Maps.OwnSet
import Derived.Maps.Views
import Derived.Maps.Keyed
namespace Go.Proofs.Ytgdejgfmhndbhaa
open Go.RowKit Go.Maps
set_option linter.unusedSimpArgs false
set_option linter.unusedVariables false
variable {B : Nat}
def fst' (pl : List (Bs × Nat)) (n : Bs) : Option Nat := (pl.find? fun p => decide (p.1 = n)).map (·.2)
structure WrOk (s : Wr) : Prop where
  up : s.pl.Pairwise (fun p q => p.2 ≤ q.2)
  le : ∀ p ∈ s.pl, p.2 ≤ s.b.length
  cnt : s.pl.length ≤ s.b.length
structure WrI (B : Nat) (W : World) (t : Nat) (s : Wr) (v : Value) (mb n : Nat) (D : DataW Unit) : Prop where
  blk : W.heap[t]? = some (.cells #[v, .map (some mb)] 57 (0, 0))
  row : BR 5 B W v s.b
  map : W.ownsMap Try.prog 39 (plainElem Try.prog 3) mb n D
  abs : ∀ x : Bs, has D (.string x) = (fst' s.pl x).isSome ∧ D.atKey (.string x) (.lit (.int .i64 0)) = .lit (.int .i64 ((fst' s.pl x).getD 0 : Nat))
  lo : B ≤ t ∧ B ≤ mb ∧ ∀ k, v.ownBlock = some k → B ≤ k
  cnt : n ≤ s.pl.length
def WrM (B : Nat) (W : World) (t : Nat) (s : Wr) : Prop := WrOk s ∧ ∃ v mb n D, WrI B W t s v mb n D
def kindW : Option Obj → Bool
  | some (.cells _ t _) => decide (t = 57) || decide (t = 5)
  | some (.map _ _) => true
  | _ => false
def UpdW (B : Nat) (w w' : World) : Prop := Upd (fun b => B ≤ b ∧ kindW w.heap[b]? = true) w w'
theorem UpdW.of0 {w w' : World} (h : Upd0 w w') : UpdW B w w' := h.mono (fun _ _ h => h.elim)
theorem UpdW.refl (w : World) : UpdW B w w := UpdW.of0 (Upd.refl _ _)
theorem UpdW.tr {w w' w'' : World} (h : UpdW B w w') (k : UpdW B w' w'') : UpdW B w w'' := by
  refine Upd.trans h k fun n hn hs => ?_
  by_cases he : kindW w.heap[n]? = true
  · exact ⟨hs.1, he⟩
  · have := h.keep n hn (fun h => he h.2)
    rw [this] at hs
    exact hs
theorem UpdW.fin {w0 w w' : World} (h : Upd0 w0 w) (k : UpdW w0.heap.size w w') : Upd0 w0 w' := Upd.trans h k fun n hn hs => by have := hs.1; omega
theorem UpdW.other {w w' : World} (h : UpdW B w w') {n : Nat} {c : Array Value} {T : TypeId} {f : Nat × Nat} (hb : w.heap[n]? = some (.cells c T f)) (hT : (decide (T = 57) || decide (T = 5)) = false) : w'.heap[n]? = some (.cells c T f) :=
  h.block (fun hs => by have := hs.2; rw [hb] at this; simp only [kindW] at this; rw [hT] at this; cases this) hb
theorem UpdW.old {w w' : World} (h : UpdW B w w') {p : Addr} {v : Value} (hp : p.block < B) (hv : w.cell? p = some v) : w'.cell? p = some v := h.cell (fun hs => by have := hs.1; omega) hv
theorem WrI.ne {w : World} {t : Nat} {s : Wr} {v : Value} {mb n : Nat} {D : DataW Unit} (h : WrI B w t s v mb n D) : v.ownBlock ≠ some t ∧ mb ≠ t ∧ v.ownBlock ≠ some mb := by
  obtain ⟨es, clock, hb, _⟩ := h.map
  have h1 : v.ownBlock ≠ some t ∧ v.ownBlock ≠ some mb := by
    rcases h.row with ⟨rfl, _⟩ | ⟨g, cap, cur, fz, rfl, _, hg, _⟩
    · exact ⟨by simp [Value.ownBlock], by simp [Value.ownBlock]⟩
    · refine ⟨fun e => ?_, fun e => ?_⟩
      · simp [Value.ownBlock] at e
        rw [e, h.blk] at hg; cases hg
      · simp [Value.ownBlock] at e
        rw [e, hb] at hg; cases hg
  refine ⟨h1.1, fun e => ?_, h1.2⟩
  rw [e, h.blk] at hb; cases hb
theorem WrI.to0 {w w' : World} {t : Nat} {s : Wr} {v : Value} {mb n : Nat} {D : DataW Unit} (h : WrI B w t s v mb n D) (k : Upd0 w w') : WrI B w' t s v mb n D := by
  refine ⟨k.block (fun h => h) h.blk, h.row.up k, ?_, h.abs, h.lo, h.cnt⟩
  obtain ⟨es, clock, hb, r⟩ := h.map
  exact ⟨es, clock, k.block (fun h => h) hb, r⟩
theorem WrM.to0 {w w' : World} {t : Nat} {s : Wr} (h : WrM B w t s) (k : Upd0 w w') : WrM B w' t s := by
  obtain ⟨h1, v, mb, n, D, h2⟩ := h
  exact ⟨h1, v, mb, n, D, h2.to0 k⟩
theorem WrM.hB {w : World} {t : Nat} {s : Wr} (h : WrM B w t s) : B ≤ w.heap.size := by
  obtain ⟨_, v, mb, n, D, h2⟩ := h
  have := blk_lt h2.blk
  have := h2.lo.1
  omega
theorem WrM.lt {w : World} {t : Nat} {s : Wr} (h : WrM B w t s) : t < w.heap.size := by
  obtain ⟨_, v, mb, n, D, h2⟩ := h
  exact blk_lt h2.blk
theorem WrI.kinds {w : World} {t : Nat} {s : Wr} {v : Value} {mb n : Nat} {D : DataW Unit} (h : WrI B w t s v mb n D) : (B ≤ t ∧ kindW w.heap[t]? = true) ∧ (B ≤ mb ∧ kindW w.heap[mb]? = true) ∧ ∀ k, v.ownBlock = some k → B ≤ k ∧ kindW w.heap[k]? = true := by
  refine ⟨⟨h.lo.1, by rw [h.blk]; rfl⟩, ⟨h.lo.2.1, ?_⟩, fun k hk => ⟨h.lo.2.2 k hk, ?_⟩⟩
  · obtain ⟨es, clock, hb, _⟩ := h.map
    rw [hb]; rfl
  · rcases h.row with ⟨rfl, _⟩ | ⟨g, cap, cur, fz, rfl, _, hg, _⟩
    · simp [Value.ownBlock] at hk
    · simp [Value.ownBlock] at hk
      subst hk
      rw [hg]; rfl
theorem WrOk.add {s : Wr} (h : WrOk s) (l : Bs) : WrOk (s.add l) := ⟨h.up, fun p hp => by have := h.le p hp; simp [Wr.add]; omega, by have := h.cnt; simp [Wr.add]; omega⟩
theorem WrI.put {w w1 : World} {t : Nat} {s : Wr} {v v' : Value} {mb n : Nat} {D : DataW Unit} {b' : Bs} (h : WrI B w t s v mb n D) (hu : Upd (fun k => v.ownBlock = some k) w w1) (hr : BR 5 B w1 v' b') (hf : Fresh w v v') :
    WrI B (w1.setCell ⟨t, 0, none⟩ v') t ⟨b', s.pl⟩ v' mb n D ∧ UpdW B w (w1.setCell ⟨t, 0, none⟩ v') := by
  obtain ⟨n1, n2, n3⟩ := h.ne
  obtain ⟨k1, k2, k3⟩ := h.kinds
  have hlt := blk_lt h.blk
  have hv't : v'.ownBlock ≠ some t := fun e => by
    rcases hf t e with e | e
    · exact n1 e
    · omega
  have hset : Upd (fun n => n = t) w1 (w1.setCell ⟨t, 0, none⟩ v') := (Upd.refl (fun n => n = t) w1).setCell (p := ⟨t, 0, none⟩) (fun _ => rfl) _
  refine ⟨⟨by simpa using blk_set (hu.block (fun e => n1 e) h.blk) 0 v', hr.upd hset (fun g hg e => hv't (by rw [hg, e])), ?_, h.abs, ⟨h.lo.1, h.lo.2.1, fun b hb => ?_⟩, h.cnt⟩, ?_⟩
  · obtain ⟨es, clock, hb, r⟩ := h.map
    exact ⟨es, clock, hset.block n2 (hu.block (fun e => n3 e) hb), r⟩
  · rcases hf b hb with e | e
    · exact h.lo.2.2 b e
    · have := h.lo.1; omega
  · exact Upd.setCell (S := fun b => B ≤ b ∧ kindW w.heap[b]? = true) (hu.mono fun k _ hk => k3 k hk) (fun _ => k1) _
theorem WrI.ins {w w1 : World} {t : Nat} {s : Wr} {v : Value} {mb n : Nat} {D : DataW Unit} {x : Bs} (h : WrI B w t s v mb n D) (hno : fst' s.pl x = none) (hm : w1.ownsMap Try.prog 39 (plainElem Try.prog 3) mb (n + 1) (D.put (.string x) (.lit (.int .i64 (s.b.length : Nat))))) (ht : w.mapTurned w1 mb) :
    WrI B w1 t ⟨s.b, s.pl ++ [(x, s.b.length)]⟩ v mb (n + 1) (D.put (.string x) (.lit (.int .i64 (s.b.length : Nat)))) ∧ UpdW B w w1 := by
  obtain ⟨n1, n2, n3⟩ := h.ne
  obtain ⟨k1, k2, k3⟩ := h.kinds
  have hu : Upd (fun k => k = mb) w w1 := (Upd.refl (fun k => k = mb) w).grown ht.grown (fun k hk _ => by injection hk with hk; exact hk.symm)
  have hD : IsMap D := h.map.isMap
  have hk : WideAt.IsKeyLit (.string x) := by first | trivial | exact .inl ⟨_, rfl⟩ | decide | constructor
  refine ⟨⟨hu.block (fun e => n2 e.symm) h.blk, h.row.upd hu (fun g hg e => n3 (by rw [hg, e])), hm, ?_, h.lo, by simp; exact h.cnt⟩, hu.mono (fun k _ e => by rw [e]; exact k2)⟩
  · intro y
    have hnew : fst' (s.pl ++ [(x, s.b.length)]) y = if y = x then (match fst' s.pl y with | some a => some a | none => some s.b.length) else fst' s.pl y := by
      unfold fst'
      rw [List.find?_append]
      cases hh : s.pl.find? (fun p => decide (p.1 = y)) with
      | some p => simp
      | none =>
        by_cases hyx : y = x
        · subst hyx; simp
        · have : ¬ x = y := fun e => hyx e.symm
          simp [hyx, this]
    rw [hnew]
    by_cases hyx : y = x
    · subst hyx
      rw [has_put_same hD hk, atKey_put_same hD hk, hno]
      simp
    · have hne : (Lit.string y) ≠ Lit.string x := fun e => hyx (by injection e)
      rw [has_put_other hne, atKey_put_other hne, if_neg hyx]
      exact h.abs y
theorem wd2_cells (n : Nat) : ([.int .u8 ((n : Int) / 256 % 256), .int .u8 ((n : Int) % 256)] : List Value) = byt (wd2 n) := by
  simp only [byt, wd2, List.map_cons, List.map_nil, UInt8.toNat_ofNat']
  congr 3 <;> omega
theorem two_w {w : World} {b : Nat} {a0 a1 : Value} {t : TypeId} (h : w.heap[b]? = some (.cells #[a0, a1] t (0, 0))) : w.cell? ⟨b, 0, none⟩ = some a0 ∧ w.cell? ⟨b, 1, none⟩ = some a1 ∧ ∀ i, w.frozen? ⟨b, i, none⟩ = false := ⟨by rw [blk_cell h]; rfl, by rw [blk_cell h]; rfl, fun i => blk_frz h i⟩
set_option maxRecDepth 100000 in
theorem word_w (t : Nat) (s : Wr) (n : Nat) (w : World) (h : WrM B w t s) (hl : s.b.length ≤ 50000000) (hn : n < 4294967296) :
    Calls Try.prog 31 #[.pointer (some ⟨t, 0, none⟩), .int .i64 n] w (Rets fun r w' => r = .tuple #[] ∧ UpdW B w w' ∧ WrM B w' t (s.add (wd2 n))) := by
  obtain ⟨i0, hi, hz0, hz1, hz2⟩ := info_parts info_u8
  have hB := h.hB
  obtain ⟨hok, v, mb, nn, D, hI⟩ := h
  obtain ⟨ao, cap, rfl⟩ := hI.row.isSlice
  obtain ⟨c0, c1, c2⟩ := two_w hI.blk
  have hIh := Lib.hid hI
  have hlt := blk_lt hI.blk
  have hne1 : ¬ t = w.heap.size := by omega
  have hne2 : ¬ w.heap.size = t := by omega
  clear hI
  go_enter Try.func31, Try.ntmps31
  go_wp2_with (first
    | (at_builtin; refine wpList_appB rfl (.tmp 8) (.tmp 14) 38 rfl 5 i0 Try.underlying38 hi hz0 hz1 hz2 (wd2 n) rfl (hIh.out.row.up (by repeat first | with_reducible (first | exact Upd.refl _ _ | assumption | apply Upd.drew | apply Upd.alloc) | refine Upd0.tr ?_ (by with_reducible assumption) | refine Upd.setCell ?_ (fun h => absurd h (by first | exact Nat.lt_irrefl _ | (simp only []; omega))) _)) (by simp only [World.size_alloc]; omega) w.heap.size 2 2 _ rfl (alloc_last _ _ _ (by simp)) (wd2_cells n) rfl (by simp [wd2]; omega) ?_; intro ao' cap' w1 hb1 hu1 hf1; obtain ⟨x0, x1, x2⟩ := two_w (hu1.block (fun e => (hIh.out.ne).1 e) (blk_alloc hIh.out.blk)); have hb1h := Lib.hid hb1; have hf1h := Lib.hid hf1; have hu1h := Lib.hid hu1; clear hb1 hf1 hu1)
    | (with_reducible refine wp_serial (by kernel_rfl) (by kernel_rfl) (by repeat with_reducible (first | apply NoBad.then | apply NoBad.inBlock | apply NoBad.jump | exact NoBad.rets)) ?_)
    | fail)
  all_goals go_returns
  have hu2 : Upd (fun k => (Value.slice ao s.b.length cap).ownBlock = some k) w w1 := Upd.trans ((Upd.refl (fun k => (Value.slice ao s.b.length cap).ownBlock = some k) w).alloc _) hu1h.out (fun _ _ h => h)
  obtain ⟨z1, z2⟩ := hIh.out.put hu2 hb1h.out (Fresh.trans (Fresh.refl _ _) hf1h.out (by simp))
  exact ⟨rfl, z2, hok.add _, _, _, _, _, z1⟩
end Go.Proofs.Ytgdejgfmhndbhaa
