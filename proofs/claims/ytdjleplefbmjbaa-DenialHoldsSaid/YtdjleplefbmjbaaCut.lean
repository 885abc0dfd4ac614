/-
  name.cut.
-/
import Derived.RangeFuncNested
import Derived.RangeFuncBound
import Derived.Shelf.RegionOpen
import Derived.WalkKit
import Derived.OwnWalkIn
import Derived.TacticsInMore
import Derived.LoopNIn
import Derived.LoopIn
import Derived.Test.YtdjleplefbmjbaaRng
import Derived.Test.YtdjleplefbmjbaaPlA
import Derived.Test.YtdjleplefbmjbaaLbl
import Derived.Test.YtdjleplefbmjbaaRows
namespace Go.Proofs.Ytdjleplefbmjbaa
open Go.RowKit Go.Shelf
set_option linter.unusedSimpArgs false
set_option linter.unusedVariables false
attribute [local go_sem] Oper.semAt_some
theorem info_str : (Try.prog.info? 9).map (fun i => (i.zero, i.size, i.bytes)) = some (some (.string .empty), 1, 16) := by kernel_rfl
def strs (l : List Bs) : List Value := l.map fun s => .string ⟨s.toArray⟩
theorem box_upd {S : Nat → Prop} {w w' : World} {B : Nat} {t : TypeId} {v : Value} (h : Boxed w B t v) (k : Upd S w w') (hn : ¬ S B) : Boxed w' B t v := k.block hn h
theorem below_upd {S : Nat → Prop} {B : Nat} {a w w' : World} (h : Below B a w) (k : Upd S w w') (hn : ∀ n, S n → B ≤ n) (hB : B ≤ a.heap.size) : Below B a w' :=
  h.trans (k.below (Nat.le_trans hB h.size) hn)
/-- what holds between two rounds of cut's loop: base n0 (the heap's size when cut was called) -/
structure CutI (n0 : Nat) (w : World) (pre : List (Bs × Bool)) (W : World) (v : Value) : Prop where
  b0 : Boxed W n0 40 (.slice none 0 0)
  b1 : Boxed W (n0 + 1) 4 (.bool false)
  b2 : Boxed W (n0 + 2) 40 v
  row : W.ownsRow (n0 + 6) 9 1 v pre.length (strs (pre.map (·.1)))
  all : pre.all (·.2) = true
  bel : Below n0 w W
structure CutX (n0 : Nat) (w W : World) : Prop where
  b0 : Boxed W n0 40 (.slice none 0 0)
  b1 : Boxed W (n0 + 1) 4 (.bool false)
  bel : Below n0 w W
theorem cutI_upd {n0 : Nat} {w A A' : World} {pre : List (Bs × Bool)} {v : Value} (h : CutI n0 w pre A v) (k : Upd (fun k => k = n0 + 3 ∨ k = n0 + 4 ∨ k = n0 + 5) A A') (hn : n0 ≤ w.heap.size) : CutI n0 w pre A' v :=
  ⟨box_upd h.b0 k (by omega), box_upd h.b1 k (by omega), box_upd h.b2 k (by omega), ownsRow_upd h.row k (fun g hg e => by have := (h.row.lt g hg).1; omega), h.all, below_upd h.bel k (fun n e => by omega) hn⟩
theorem cutX_upd {n0 : Nat} {w A A' : World} (h : CutX n0 w A) (k : Upd (fun k => k = n0 + 3 ∨ k = n0 + 4 ∨ k = n0 + 5) A A') (hn : n0 ≤ w.heap.size) : CutX n0 w A' :=
  ⟨box_upd h.b0 k (by omega), box_upd h.b1 k (by omega), below_upd h.bel k (fun n e => by omega) hn⟩
theorem cut_le {pre : List (Bs × Bool)} {x : Bs × Bool} {s : Bs} (h : (pre ++ [x]) <+: yl s) : pre.length ≤ s.length := by
  have h1 := h.length_le
  have h2 := yl_len s
  simp at h1; omega
theorem cut_no {pre : List (Bs × Bool)} {x : Bs} {s : Bs} (h : (pre ++ [(x, false)]) <+: yl s) : lab s = none := by
  cases hl : lab s with
  | none => rfl
  | some l =>
    rw [yl_some hl] at h
    have := h.subset (show (x, false) ∈ pre ++ [(x, false)] by simp)
    simp at this
theorem cut_app {n0 : Nat} {w W w1 : World} {pre : List (Bs × Bool)} {v : Value} {o : Obj} (h : CutI n0 w pre W v) (hlt : n0 + 5 < W.heap.size) (hg : (W.alloc o).grownBy w1 v.ownBlock) :
    w1.cell? ⟨n0 + 2, 0, none⟩ = some v ∧ w1.frozen? ⟨n0 + 2, 0, none⟩ = false ∧ Upd (fun k => v.ownBlock = some k) W w1 := by
  have hu : Upd (fun k => v.ownBlock = some k) W w1 := ((Upd.refl _ W).alloc o).grown hg (fun k e _ => e)
  have hb := box_upd h.b2 hu (fun e => by have := (h.row.lt _ e).1; omega)
  exact ⟨hb.cell, hb.frozen, hu⟩
theorem cut_step {n0 : Nat} {w W w1 : World} {pre : List (Bs × Bool)} {v v' : Value} {x : Bs} (hn : n0 ≤ w.heap.size) (h : CutI n0 w pre W v) (hlt : n0 + 5 < W.heap.size) (hu : Upd (fun k => v.ownBlock = some k) W w1)
    (hrow : w1.ownsRow (n0 + 6) 9 1 v' (pre.length + 1) (strs (pre.map (·.1)) ++ [.string ⟨x.toArray⟩])) :
    Kept3 (n0 + 3) (n0 + 4) W (w1.setCell ⟨n0 + 2, 0, none⟩ v') ∧ CutI n0 w (pre ++ [(x, true)]) (w1.setCell ⟨n0 + 2, 0, none⟩ v') v' := by
  have hf : ∀ k, k < n0 + 6 → ¬ v.ownBlock = some k := fun k hk e => by have := (h.row.lt _ e).1; omega
  have hb2 := box_upd h.b2 hu (hf _ (by omega))
  have hs : Upd (fun k => k = n0 + 2) w1 (w1.setCell ⟨n0 + 2, 0, none⟩ v') := (Upd.refl (fun k => k = n0 + 2) w1).setCell (p := ⟨n0 + 2, 0, none⟩) (fun _ => rfl) _
  have hu2 : Upd (fun k => v.ownBlock = some k ∨ k = n0 + 2) W (w1.setCell ⟨n0 + 2, 0, none⟩ v') := (hu.mono (fun _ _ h => .inl h)).setCell (fun _ => .inr rfl) _
  have hk : ∀ k, k < n0 + 6 → k ≠ n0 + 2 → (w1.setCell ⟨n0 + 2, 0, none⟩ v').heap[k]? = W.heap[k]? := fun k hk hne => hu2.keep k (by omega) (fun e => e.elim (hf k hk) hne)
  refine ⟨⟨hu2.size, hk _ (by omega) (by omega), hk _ (by omega) (by omega), hk _ (by omega) (by omega)⟩, ?_, ?_, hb2.set _, ?_, ?_, ?_⟩
  · exact (hk _ (by omega) (by omega)).trans h.b0
  · exact (hk _ (by omega) (by omega)).trans h.b1
  · have := ownsRow_upd hrow hs (fun g hg e => by have := (hrow.lt g hg).1; omega)
    simpa [strs] using this
  · simp [h.all]
  · exact below_upd h.bel hu2 (fun n e => e.elim (fun e => by have := (h.row.lt _ e).1; omega) (fun e => by omega)) hn
theorem cut_stop {n0 : Nat} {w W : World} (hn : n0 ≤ w.heap.size) (h : CutX n0 w W) :
    Kept3 (n0 + 3) (n0 + 4) W ((W.setCell ⟨n0, 0, none⟩ (.slice none 0 0)).setCell ⟨n0 + 1, 0, none⟩ (.bool false)) ∧ CutX n0 w ((W.setCell ⟨n0, 0, none⟩ (.slice none 0 0)).setCell ⟨n0 + 1, 0, none⟩ (.bool false)) := by
  have hu : Upd (fun k => k = n0 ∨ k = n0 + 1) W ((W.setCell ⟨n0, 0, none⟩ (.slice none 0 0)).setCell ⟨n0 + 1, 0, none⟩ (.bool false)) := ((Upd.refl _ W).setCell (fun _ => .inl rfl) _).setCell (fun _ => .inr rfl) _
  have h1 : Boxed (W.setCell ⟨n0, 0, none⟩ (.slice none 0 0)) (n0 + 1) 4 (.bool false) := (Below.heap_setCell _ _ _ _ (by simp)).trans h.b1
  refine ⟨⟨hu.size, ?_, ?_, ?_⟩, ?_, h1.set _, below_upd h.bel hu (fun n e => by omega) hn⟩
  · rw [Below.heap_setCell _ _ _ _ (by simp), Below.heap_setCell _ _ _ _ (by simp)]
  · rw [Below.heap_setCell _ _ _ _ (by simp), Below.heap_setCell _ _ _ _ (by simp)]
  · rw [Below.heap_setCell _ _ _ _ (by simp), Below.heap_setCell _ _ _ _ (by simp only []; omega)]
  · exact (Below.heap_setCell _ _ _ _ (by simp)).trans (h.b0.set _)
theorem cut_end {n0 : Nat} {w W : World} {ao : Option Addr} {n cap : Nat} {xs : List Value} (hn : n0 ≤ w.heap.size) (h0 : Boxed W n0 40 (.slice none 0 0)) (h1 : Boxed W (n0 + 1) 4 (.bool false)) (hr : W.ownsRow (n0 + 6) 9 1 (.slice ao n cap) n xs) (hb : Below n0 w W) (W' : World)
    (hW : ((W.setCell ⟨n0, 0, none⟩ (.slice ao n cap)).setCell ⟨n0 + 1, 0, none⟩ (.bool true)).putObj (n0 + 4) (.deferred none) = W') :
    W'.cell? ⟨n0, 0, none⟩ = some (.slice ao n cap) ∧ W'.cell? ⟨n0 + 1, 0, none⟩ = some (.bool true) ∧ W'.ownsRow n0 9 1 (.slice ao n cap) n xs ∧ Below n0 w W' := by
  have hu : Upd (fun k => k = n0 ∨ k = n0 + 1 ∨ k = n0 + 4) W W' := by
    rw [← hW]; exact (((Upd.refl _ W).setCell (fun _ => .inl rfl) _).setCell (fun _ => .inr (.inl rfl)) _).putObj (fun _ => .inr (.inr rfl)) _
  have e0 : Boxed W' n0 40 (.slice ao n cap) := by
    rw [← hW]
    exact (World.putObj_heap_other (by omega)).trans ((Below.heap_setCell _ _ _ _ (by simp)).trans (h0.set _))
  have e1 : Boxed W' (n0 + 1) 4 (.bool true) := by
    rw [← hW]
    have h1' : Boxed (W.setCell ⟨n0, 0, none⟩ (.slice ao n cap)) (n0 + 1) 4 (.bool false) := (Below.heap_setCell _ _ _ _ (by simp)).trans h1
    exact (World.putObj_heap_other (by omega)).trans (h1'.set _)
  refine ⟨e0.cell, e1.cell, ?_, below_upd hb hu (fun n e => by omega) hn⟩
  exact ownsRow_mono (ownsRow_upd hr hu (fun g hg e => by have := (hr.lt g hg).1; omega)) (fun g hg => by have := (hr.lt g hg).1; omega)
theorem cut_yes {s : Bs} (hs : s.length ≤ 254) (h : (yl s).all (·.2) = true) : cutB s = true ∧ cutL s = (yl s).map (·.1) := by
  cases hl : lab s with
  | none =>
    obtain ⟨l, hl'⟩ := yl_none hl
    rw [hl'] at h
    simp at h
  | some l =>
    have : cutO s = some l := by rw [cutO, if_neg (by omega), hl]
    rw [cutB, cutL, this, yl_some hl]
    exact ⟨rfl, by rw [List.map_map]; exact (List.map_id l).symm⟩
theorem cut_none {s : Bs} (h : lab s = none) : cutB s = false ∧ cutL s = [] := by
  have : cutO s = none := by rw [cutO, h]; simp
  rw [cutB, cutL, this]; exact ⟨rfl, rfl⟩
set_option maxRecDepth 100000 in
set_option maxHeartbeats 1000000 in
theorem cut_in (s : Bs) (hs : s.length ≤ 254) (w : World) : CallsIn Fence.wide 4 Try.prog 43 #[.string ⟨s.toArray⟩] w fun e w' =>
    ∃ ao cap, e = .returned (.tuple #[.slice ao (cutL s).length cap, .bool (cutB s)]) ∧ w'.ownsRow w.heap.size 9 1 (.slice ao (cutL s).length cap) (cutL s).length (strs (cutL s)) ∧ Below w.heap.size w w' := by
  obtain ⟨i0, hi, hz0, hz1, hz2⟩ := info_parts info_str
  refine callsIn_of_wp_marks Try.func43 rfl trivial ?_ rfl
  simp only [Try.ntmps43, List.size_toArray, List.length_cons, List.length_nil, Nat.reduceAdd, Nat.reduceSub, Array.replicate_succ, Array.replicate_zero, List.push_toArray, List.append_toArray, List.nil_append, List.cons_append]
  gi_wp2_with (refine ⟨trivial, ?_⟩; gi_at_call 68; refine (labels_any _ _).mono ?_; rintro e w' ⟨rfl, rfl⟩)
  obtain ⟨W0, hW0⟩ : ∃ W0, ((((w.alloc (.cells #[.slice none 0 0] 40)).alloc (.cells #[.bool false] 4)).alloc (.cells #[.slice none 0 0] 40)).alloc (.cells #[.string ⟨s.toArray⟩] 22)) = W0 := ⟨_, rfl⟩
  have hz : W0.heap.size = w.heap.size + 4 := by rw [← hW0]; simp
  have hcb : W0.heap[w.heap.size + 3]? = some (.cells #[.string ⟨s.toArray⟩] 22 (0, 0)) := by rw [← hW0]; exact alloc_last _ _ _ (by simp)
  have hI0 : CutI w.heap.size w [] W0 (.slice none 0 0) := by
    rw [← hW0]
    refine ⟨blk_alloc (blk_alloc (blk_alloc (alloc_last _ _ _ rfl))), blk_alloc (blk_alloc (alloc_last _ _ _ (by simp))), blk_alloc (alloc_last _ _ _ (by simp)), World.ownsRow_nil _ _ _ _, rfl, ?_⟩
    exact ((((Below.refl _ w).alloc (Nat.le_refl _) _).alloc (by simp) _).alloc (by simp; omega) _).alloc (by simp; omega) _
  have hq : w.heap.size + 1 + 1 + 1 = w.heap.size + 3 := rfl
  have hq2 : w.heap.size + 1 + 1 = w.heap.size + 2 := rfl
  rw [hW0]
  clear hW0
  refine wpIn_range_cell rfl (by omega) (gf := 78) (cb := w.heap.size + 3) (lb := #[.pointer (some ⟨w.heap.size + 3, 0, none⟩)]) rfl trivial (enters_of Try.func78 (by kernel_rfl) rfl)
    (encs := encL) (xs0 := yl s) (labels1_seq s (by unfold maxLen; omega) W0 _ hcb) (by omega) (fun x => rfl)
    (fun pre W => ∃ v, CutI w.heap.size w pre W v) (fun c pre W => c = .ret ∧ lab s = none ∧ CutX w.heap.size w W)
    (fun p A A' ⟨v, h⟩ k => ⟨v, cutI_upd h (k.mono (fun n _ hn => by rw [hz] at hn; omega)) (Nat.le_refl _)⟩)
    (fun c p A A' ⟨h1, h2, h⟩ k => ⟨h1, h2, cutX_upd h (k.mono (fun n _ hn => by rw [hz] at hn; omega)) (Nat.le_refl _)⟩)
    (fun W hu => ⟨_, cutI_upd hI0 (hu.mono (fun _ _ h => h.elim)) (Nat.le_refl _)⟩)
    (fun x => { tmps := #[.string ⟨s.toArray⟩, undef, .pointer (some ⟨w.heap.size, 0, none⟩), .pointer (some ⟨w.heap.size + 1, 0, none⟩), .pointer (some ⟨w.heap.size + 2, 0, none⟩), .string ⟨x.1.toArray⟩, .bool x.2, .string ⟨s.toArray⟩, .int .i64 s.length, .bool (decide (254 < (s.length : Int))), .string ⟨s.toArray⟩, .func (.func 78) #[] #[.pointer (some ⟨w.heap.size + 3, 0, none⟩)], .string ⟨x.1.toArray⟩, .bool x.2, undef, undef, undef, undef, undef, undef, undef], defers := [] }) ?assign ?body ?done ?stop
  case assign =>
    rintro l ⟨x, ok⟩ W K hK
    simp only [encL]
    gi_wp2
    exact hK
  case body =>
    rintro l pre ⟨x, ok⟩ W hlt hpx ⟨v, hI⟩
    rw [hz] at hlt
    cases ok with
    | true =>
      obtain ⟨ao, cap, rfl⟩ := ownsRow_slice hI.row
      have c2 := hI.b2.cell
      have f2 := hI.b2.frozen
      have hle := cut_le hpx
      have hIh := Lib.hid hI
      have hrow := Lib.hid hI.row
      clear hpx hI
      gi_wp2_with (gi_at_builtin; refine wpListIn_append_own _ rfl _ _ 40 rfl (w.heap.size + 6) 9 i0 (.string .empty) 1 16 Try.underlying40 hi hz0 hz1 hz2 rfl (by decide) _ _ _ rfl (hrow.out.alloc _) ⟨W.heap.size, 0, none⟩ 1 1 [.string ⟨x.toArray⟩] rfl rfl (cell_one_new _ _ _) (by simp [Value.oneCell']) (by unfold maxLen; omega) (by omega) (by simp only [World.size_alloc]; omega) ?_; intro v' w1 hown' hgrow _; obtain ⟨g', cap', rfl⟩ := ownsRow_succ hown'; obtain ⟨d1, d2, d3⟩ := cut_app hIh.out hlt hgrow; have hownh := Lib.hid hown'; clear hown' hgrow)
      have h2 := cut_step (Nat.le_refl _) hIh.out hlt d3 hownh.out
      exact ⟨h2.1, _, h2.2⟩
    | false =>
      have c0 := hI.b0.cell
      have c1 := hI.b1.cell
      have f0 := hI.b0.frozen
      have f1 := hI.b1.frozen
      have hno := Lib.hid (cut_no hpx)
      have hIh := Lib.hid hI
      clear hpx hI
      gi_wp2
      have hX : CutX w.heap.size w W := ⟨hIh.out.b0, hIh.out.b1, hIh.out.bel⟩
      have h2 := cut_stop (Nat.le_refl _) hX
      exact ⟨h2.1, rfl, hno.out, h2.2⟩
  case done =>
    rintro W ⟨v, hI⟩ hK
    obtain ⟨ao, cap, rfl⟩ := ownsRow_slice hI.row
    have c0 := hI.b0.cell
    have c1 := hI.b1.cell
    have c2 := hI.b2.cell
    have f0 := hI.b0.frozen
    have f1 := hI.b1.frozen
    have hIh := Lib.hid hI
    clear hI
    gi_wp2
    rw [hz] at hK
    obtain ⟨W', hW'⟩ : ∃ W', ((W.setCell ⟨w.heap.size, 0, none⟩ (.slice ao (yl s).length cap)).setCell ⟨w.heap.size + 1, 0, none⟩ (.bool true)).putObj (w.heap.size + 4) (.deferred none) = W' := ⟨_, rfl⟩
    obtain ⟨d0, d1, d2, d3⟩ := cut_end (Nat.le_refl _) hIh.out.b0 hIh.out.b1 hIh.out.row hIh.out.bel W' hW'
    have hK' : ((W.setCell ⟨w.heap.size, 0, none⟩ (.slice ao (yl s).length cap)).setCell ⟨w.heap.size + 1, 0, none⟩ (.bool true)).heap[w.heap.size + 4]? = some (.deferred (some [])) := by
      rw [Below.heap_setCell _ _ _ _ (by simp), Below.heap_setCell _ _ _ _ (by simp)]; exact hK
    refine ⟨by simp, .inl ⟨_, _, rfl, run_takeDeferred hK', ?_⟩⟩
    rw [hW']
    obtain ⟨y1, y2⟩ := cut_yes hs hIh.out.all
    have hl : (yl s).length = (cutL s).length := by rw [y2, List.length_map]
    rw [← y2] at d2
    rw [hl] at d0 d2
    exact ⟨.tuple #[.slice ao (cutL s).length cap, .bool (cutB s)], by simp [results, Try.results43, go_sem, d0, d1, y1], ao, cap, rfl, d2, d3⟩
  case stop =>
    rintro c pre W hpx ⟨rfl, hno, hX⟩ hK
    gi_wp2
    rw [hz] at hK
    have hu : Upd (fun k => k = w.heap.size + 3 ∨ k = w.heap.size + 4 ∨ k = w.heap.size + 5) W (W.putObj (w.heap.size + 4) (.deferred none)) := (Upd.refl _ W).putObj (fun _ => .inr (.inl rfl)) _
    have hX' := cutX_upd hX hu (Nat.le_refl _)
    refine ⟨by simp, .inl ⟨_, _, rfl, run_takeDeferred hK, ?_⟩⟩
    have c0 := hX'.b0.cell
    have c1 := hX'.b1.cell
    obtain ⟨y1, y2⟩ := cut_none hno
    refine ⟨.tuple #[.slice none 0 0, .bool false], by simp [results, Try.results43, go_sem, c0, c1], none, 0, ?_, ?_, hX'.bel⟩
    · rw [y1, y2]; rfl
    · rw [y2]; exact World.ownsRow_nil _ _ _ _
set_option maxRecDepth 100000 in
theorem cut_long (s : Bs) (hs : 254 < s.length) (hm : s.length ≤ maxLen) (w : World) : Calls Try.prog 43 #[.string ⟨s.toArray⟩] w (Rets fun r w' =>
    r = .tuple #[.slice none 0 0, .bool false] ∧ Below w.heap.size w w') := by
  unfold maxLen at hm
  go_enter Try.func43, Try.ntmps43
  go_wp2_with fail
  refine bodyPost_ret (v := .tuple #[.slice none 0 0, .bool false]) (by simp [results, Try.results43, go_sem]) rfl ⟨rfl, ?_⟩
  exact ((Below.refl _ w).alloc (Nat.le_refl _) _).alloc (by simp) _
theorem cut_any (s : Bs) (hm : s.length ≤ maxLen) (w : World) : Calls Try.prog 43 #[.string ⟨s.toArray⟩] w (Rets fun r w' =>
    ∃ ao cap, r = .tuple #[.slice ao (cutL s).length cap, .bool (cutB s)] ∧ w'.ownsRow w.heap.size 9 1 (.slice ao (cutL s).length cap) (cutL s).length (strs (cutL s)) ∧ Below w.heap.size w w') := by
  by_cases hs : s.length ≤ 254
  · refine (callsIn_wide.1 (cut_in s hs w)).mono fun e w' ⟨ao, cap, he, h1, h2⟩ => ?_
    subst he
    exact ⟨ao, cap, rfl, h1, h2⟩
  · refine (cut_long s (by omega) hm w).mono fun e w' he => ?_
    cases e with
    | returned r =>
      obtain ⟨rfl, h2⟩ := he
      have : cutO s = none := by rw [cutO, if_pos (by omega)]
      have h1 : cutL s = [] := by rw [cutL, this]; rfl
      have h3 : cutB s = false := by rw [cutB, this]; rfl
      refine ⟨none, 0, ?_, ?_, h2⟩
      · rw [h1, h3]; rfl
      · rw [h1]; exact World.ownsRow_nil _ _ _ _
    | _ => exact he.elim
end Go.Proofs.Ytdjleplefbmjbaa
