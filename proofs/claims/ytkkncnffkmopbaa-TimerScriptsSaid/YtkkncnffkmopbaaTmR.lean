/-
  The document's queue of timers: ahead, Stop, Due.
-/
import Derived.Test.YtkkncnffkmopbaaTmW
namespace Go.Proofs.Ytkkncnffkmopbaa
open Go.RowKit Go.Maps
set_option linter.unusedSimpArgs false
set_option linter.unusedVariables false
def Tm.cells (t : Tm) : List Value := [.string ⟨t.n.toArray⟩, .int .i64 t.a]
def tms (L : List Tm) : List Value := L.flatMap Tm.cells
theorem tm_len (t : Tm) : t.cells.length = 2 := rfl
theorem info_tm : (Try.prog.info? 43).map (fun i => (i.zero, i.size, i.bytes)) = some (some (.agg #[.string .empty, .int .i64 0]), 2, 24) := by kernel_rfl
/-- the slice at ao reads as these timers -/
def TmR (w : World) (ao : Option Addr) (L : List Tm) : Prop := L = [] ∨ ∃ g o, ao = some ⟨g, o, none⟩ ∧ (∃ cur, w.heap[g]? = some (.cells cur 43 (0, 0))) ∧ ∀ (i : Nat) x, L[i]? = some x → w.cell? ⟨g, o + i * 2, none⟩ = some (.string ⟨x.n.toArray⟩) ∧ w.cell? ⟨g, o + i * 2 + 1, none⟩ = some (.int .i64 x.a)
theorem TmR.upd {S : Nat → Prop} {w w' : World} {ao : Option Addr} {L : List Tm} (h : TmR w ao L) (k : Upd S w w') (hS : ∀ n, S n → ∀ cur, w.heap[n]? ≠ some (.cells cur 43 (0, 0))) : TmR w' ao L := by
  rcases h with rfl | ⟨g, o, h1, ⟨cur, h2⟩, h3⟩
  · exact .inl rfl
  · have hg : ¬ S g := fun hs => hS g hs cur h2
    exact .inr ⟨g, o, h1, ⟨cur, k.block hg h2⟩, fun i x hx => ⟨k.cell hg (h3 i x hx).1, k.cell hg (h3 i x hx).2⟩⟩
theorem TmR.up {w w' : World} {ao : Option Addr} {L : List Tm} (h : TmR w ao L) (k : Upd0 w w') : TmR w' ao L := h.upd k (fun _ h => h.elim)
theorem TmR.at {w : World} {ao : Option Addr} {L : List Tm} (h : TmR w ao L) {i : Nat} {x : Tm} (hx : L[i]? = some x) : ∃ g o, ao = some ⟨g, o, none⟩ ∧ g < w.heap.size ∧ w.cell? ⟨g, o + i * 2, none⟩ = some (.string ⟨x.n.toArray⟩) ∧ w.cell? ⟨g, o + i * 2 + 1, none⟩ = some (.int .i64 x.a) := by
  rcases h with rfl | ⟨g, o, h1, ⟨cur, h2⟩, h3⟩
  · simp at hx
  · exact ⟨g, o, h1, blk_lt h2, (h3 i x hx).1, (h3 i x hx).2⟩
theorem TmR.own {w : World} {B : Nat} {ao : Option Addr} {cap : Nat} {L : List Tm} (h : w.ownsRow B 43 2 (.slice ao L.length cap) L.length (tms L)) : TmR w ao L := by
  by_cases h0 : L.length = 0
  · exact .inl (List.eq_nil_of_length_eq_zero h0)
  · obtain ⟨g, rfl⟩ := ownsRow_some h (by omega)
    obtain ⟨cur, r1, _⟩ := ownsRow_blk h
    refine .inr ⟨g, 0, rfl, ⟨cur, r1⟩, fun i x hx => ⟨?_, ?_⟩⟩
    · rw [Nat.zero_add]; exact elem_cell tm_len h hx 0 _ (by omega) rfl
    · rw [Nat.zero_add]; exact elem_cell tm_len h hx 1 _ (by omega) rfl
theorem TmR.drop {w : World} {g o : Nat} {L : List Tm} (h : TmR w (some ⟨g, o, none⟩) L) (k : Nat) : TmR w (some ⟨g, o + k * 2, none⟩) (L.drop k) := by
  rcases h with rfl | ⟨g', o', h1, h2, h3⟩
  · exact .inl (by simp)
  · cases h1
    refine .inr ⟨g, o + k * 2, rfl, h2, fun i x hx => ?_⟩
    rw [List.getElem?_drop] at hx
    have := h3 (k + i) x hx
    have e : o + k * 2 + i * 2 = o + (k + i) * 2 := by rw [Nat.add_mul]; omega
    rw [e]; exact this
/-- a slice's shape -/
def capOk (n : Nat) (ao : Option Addr) (cap : Nat) : Prop := n ≤ cap ∧ (ao = none → cap = 0) ∧ ∀ ad, ao = some ad → ∃ g o, ad = ⟨g, o, none⟩
theorem own_cap {w : World} {B : Nat} {e : TypeId} {s : Nat} {ao : Option Addr} {n cap : Nat} {xs : List Value} (h : w.ownsRow B e s (.slice ao n cap) n xs) : capOk n ao cap := by
  rcases h.2 with ⟨h, h2⟩ | ⟨g', cp, cur, hv, _, _, h2, _⟩
  · injection h with h3 h4 h5
    rw [h2]; exact ⟨Nat.zero_le _, fun _ => h5, fun ad h => by rw [h3] at h; cases h⟩
  · injection hv with h3 h4 h5
    subst h3 h5
    exact ⟨h2, (fun h => by cases h), fun ad h => by cases h; exact ⟨_, _, rfl⟩⟩
/-- the document's queue in memory -/
def Rq (w : World) (b : Nat) (room : Int) (L : List Tm) : Prop := ∃ ao cap, w.heap[b]? = some (.cells #[.int .i64 room, .slice ao L.length cap] 31 (0, 0)) ∧ capOk L.length ao cap ∧ TmR w ao L
theorem Rq.upd {S : Nat → Prop} {w w' : World} {b : Nat} {room : Int} {L : List Tm} (h : Rq w b room L) (k : Upd S w w') (hS : ∀ n, S n → ∀ cur t, w.heap[n]? ≠ some (.cells cur t (0, 0))) : Rq w' b room L := by
  obtain ⟨ao, cap, h1, h2, h3⟩ := h
  exact ⟨ao, cap, k.block (fun hs => hS b hs _ _ h1) h1, h2, h3.upd k (fun n hn cur => hS n hn cur _)⟩
theorem Rq.up {w w' : World} {b : Nat} {room : Int} {L : List Tm} (h : Rq w b room L) (k : Upd0 w w') : Rq w' b room L := h.upd k (fun _ h => h.elim)
theorem Rq.lt {w : World} {b : Nat} {room : Int} {L : List Tm} (h : Rq w b room L) : b < w.heap.size := by
  obtain ⟨_, _, h1, _⟩ := h
  exact blk_lt h1
/-- behind a store into the list's cell -/
theorem Rq.store {w wr : World} {b : Nat} {room : Int} {L L' : List Tm} (h : Rq w b room L) (k : Upd0 w wr) {ao : Option Addr} {cap : Nat} (hc : capOk L'.length ao cap) (hr : TmR wr ao L') : Rq (wr.setCell ⟨b, 1, none⟩ (.slice ao L'.length cap)) b room L' ∧ Upd (fun n => n = b) w (wr.setCell ⟨b, 1, none⟩ (.slice ao L'.length cap)) := by
  obtain ⟨ao0, cap0, h1, h2, h3⟩ := h
  have hb := k.block (fun h => h) h1
  have hset : Upd (fun n => n = b) wr (wr.setCell ⟨b, 1, none⟩ (.slice ao L'.length cap)) := (Upd.refl (fun n => n = b) wr).setCell (p := ⟨b, 1, none⟩) (fun _ => rfl) _
  refine ⟨⟨ao, cap, by simpa using blk_set hb 1 (.slice ao L'.length cap), hc, hr.upd hset fun n hn cur e => ?_⟩, Upd.trans (k.mono (fun _ _ h => h.elim)) hset (fun _ _ h => h)⟩
  rw [hn, hb] at e
  injection e with e
  injection e with _ e _
  cases e
theorem rahead_w (x y : Tm) (w : World) : Calls Try.prog 20 #[.agg #[.string ⟨x.n.toArray⟩, .int .i64 x.a], .agg #[.string ⟨y.n.toArray⟩, .int .i64 y.a]] w (Rets fun r w' => r = .bool (aheadB x y) ∧ Upd0 w w') := by
  obtain ⟨n, a⟩ := x
  obtain ⟨m, b⟩ := y
  simp only [aheadB]
  by_cases h1 : a < b
  · rw [decide_eq_true h1]
    go_enter Try.func20, Try.ntmps20
    go_wp2_with (first | (with_reducible refine wp_serial (by kernel_rfl) (by kernel_rfl) (by (repeat (first | (with_reducible apply NoBad.then) | (with_reducible apply NoBad.inBlock) | (with_reducible apply NoBad.jump) | (with_reducible exact NoBad.rets))); done) ?_) | fail)
    all_goals go_returns
    all_goals exact ⟨by simp, (by (repeat (first | (with_reducible exact Upd.refl _ _) | (with_reducible assumption) | (with_reducible apply Upd.drew) | (with_reducible apply Upd.alloc) | (refine Upd0.tr ?_ (by with_reducible assumption)) | (refine Upd.setCell ?_ (fun h => absurd h (by first | exact Nat.lt_irrefl _ | (simp only []; omega))) _))); done)⟩
  · rw [decide_eq_false h1]
    by_cases h2 : a = b
    · subst h2
      simp only [decide_true, Bool.false_or, Bool.true_and]
      go_enter Try.func20, Try.ntmps20
      go_wp2_with (first | (with_reducible refine wp_serial (by kernel_rfl) (by kernel_rfl) (by (repeat (first | (with_reducible apply NoBad.then) | (with_reducible apply NoBad.inBlock) | (with_reducible apply NoBad.jump) | (with_reducible exact NoBad.rets))); done) ?_) | fail)
      all_goals go_returns
      all_goals exact ⟨rfl, (by (repeat (first | (with_reducible exact Upd.refl _ _) | (with_reducible assumption) | (with_reducible apply Upd.drew) | (with_reducible apply Upd.alloc) | (refine Upd0.tr ?_ (by with_reducible assumption)) | (refine Upd.setCell ?_ (fun h => absurd h (by first | exact Nat.lt_irrefl _ | (simp only []; omega))) _))); done)⟩
    · rw [decide_eq_false h2]
      have h3 : (a == b) = false := beq_eq_false_iff_ne.2 h2
      go_enter Try.func20, Try.ntmps20
      go_wp2_with (first | (with_reducible refine wp_serial (by kernel_rfl) (by kernel_rfl) (by (repeat (first | (with_reducible apply NoBad.then) | (with_reducible apply NoBad.inBlock) | (with_reducible apply NoBad.jump) | (with_reducible exact NoBad.rets))); done) ?_) | fail)
      all_goals go_returns
      all_goals exact ⟨rfl, (by (repeat (first | (with_reducible exact Upd.refl _ _) | (with_reducible assumption) | (with_reducible apply Upd.drew) | (with_reducible apply Upd.alloc) | (refine Upd0.tr ?_ (by with_reducible assumption)) | (refine Upd.setCell ?_ (fun h => absurd h (by first | exact Nat.lt_irrefl _ | (simp only []; omega))) _))); done)⟩
theorem rtime_w (a : Int) (w : World) : Calls Try.prog 19 #[.int .i64 a] w (Rets fun r w' => r = .bool (decide (0 ≤ a) && decide (a ≤ 1099511627776)) ∧ Upd0 w w') := by
  by_cases h1 : 0 ≤ a
  · go_enter Try.func19, Try.ntmps19
    go_wp2_with (first | (with_reducible refine wp_serial (by kernel_rfl) (by kernel_rfl) (by (repeat (first | (with_reducible apply NoBad.then) | (with_reducible apply NoBad.inBlock) | (with_reducible apply NoBad.jump) | (with_reducible exact NoBad.rets))); done) ?_) | fail)
    all_goals go_returns
    all_goals exact ⟨by simp [h1], (by (repeat (first | (with_reducible exact Upd.refl _ _) | (with_reducible assumption) | (with_reducible apply Upd.drew) | (with_reducible apply Upd.alloc) | (refine Upd0.tr ?_ (by with_reducible assumption)) | (refine Upd.setCell ?_ (fun h => absurd h (by first | exact Nat.lt_irrefl _ | (simp only []; omega))) _))); done)⟩
  · go_enter Try.func19, Try.ntmps19
    go_wp2_with (first | (with_reducible refine wp_serial (by kernel_rfl) (by kernel_rfl) (by (repeat (first | (with_reducible apply NoBad.then) | (with_reducible apply NoBad.inBlock) | (with_reducible apply NoBad.jump) | (with_reducible exact NoBad.rets))); done) ?_) | fail)
    all_goals go_returns
    all_goals exact ⟨by rw [decide_eq_false (show ¬ 0 ≤ a by omega)]; rfl, (by (repeat (first | (with_reducible exact Upd.refl _ _) | (with_reducible assumption) | (with_reducible apply Upd.drew) | (with_reducible apply Upd.alloc) | (refine Upd0.tr ?_ (by with_reducible assumption)) | (refine Upd.setCell ?_ (fun h => absurd h (by first | exact Nat.lt_irrefl _ | (simp only []; omega))) _))); done)⟩
theorem stop_take {L : List Tm} {x : Bs} {j : Nat} {t : Tm} (ht : L[j]? = some t) : stopL (L.take (j + 1)) x = stopL (L.take j) x ++ (if t.n = x then [] else [t]) ∧ hasL (L.take (j + 1)) x = (hasL (L.take j) x || decide (t.n = x)) := by
  have e : L.take (j + 1) = L.take j ++ [t] := by rw [List.take_add_one, ht]; rfl
  rw [e]
  refine ⟨?_, ?_⟩
  · rw [stopL, stopL, List.filter_append]
    congr 1
    by_cases h : t.n = x <;> simp [h]
  · simp only [hasL, List.any_append, List.any_cons, List.any_nil, Bool.or_false]
    congr 1
    rw [Bool.eq_iff_iff]; simp
set_option maxRecDepth 100000 in
set_option maxHeartbeats 1000000 in
theorem rstop_w (b : Nat) (room : Int) (L : List Tm) (x : Bs) (hl : L.length ≤ 1000) (w : World) (h : Rq w b room L) : Calls Try.prog 13 #[.pointer (some ⟨b, 0, none⟩), .string ⟨x.toArray⟩] w (Rets fun r w' =>
    r = .bool (hasL L x) ∧ Upd (fun n => n = b) w w' ∧ Rq w' b room (stopL L x)) := by
  have hh := Lib.hid h
  obtain ⟨ao, cap, hb, hcap, hr⟩ := h
  have hbh := Lib.hid hb
  have hrh := Lib.hid hr
  obtain ⟨i1, hj, hy0, hy1, hy2⟩ := info_parts info_tm
  have hbl := blk_lt hb
  clear hb hr
  go_enter Try.func13, Try.ntmps13
  go_wp2_with (first | (with_reducible refine wp_serial (by kernel_rfl) (by kernel_rfl) (by (repeat (first | (with_reducible apply NoBad.then) | (with_reducible apply NoBad.inBlock) | (with_reducible apply NoBad.jump) | (with_reducible exact NoBad.rets))); done) ?_) | fail)
  go_loopw [5, 6, 7] (fun vo vi ii wr => ∃ (j k : Nat) (ao' : Option Addr) (cap' : Nat), j ≤ L.length ∧ ii = .int .i64 j ∧ k ≤ j ∧ vo = .slice ao' k cap' ∧ vi = .bool (hasL (L.take j) x) ∧ Upd0 w wr ∧ Hid (k = (stopL (L.take j) x).length) ∧
    Hid (wr.ownsRow w.heap.size 43 2 (.slice ao' k cap') k (tms (stopL (L.take j) x)))) (fun _ _ ii _ => L.length - (intOf ii).toNat)
  case atStart => exact ⟨0, 0, none, 0, Nat.zero_le _, rfl, Nat.le_refl _, rfl, rfl, Upd.refl _ _, Lib.hid rfl, Lib.hid (World.ownsRow_nil _ _ _ _)⟩
  case round =>
    obtain ⟨j, k, ao', cap', hj', rfl, hkj, rfl, rfl, hu, hk, ho⟩ := hrel
    have hb2 := hu.block (fun h => h) hbh.out
    have c0 : wr.cell? ⟨b, 0, none⟩ = some (.int .i64 room) := by rw [blk_cell hb2]; rfl
    have c1 : wr.cell? ⟨b, 1, none⟩ = some (.slice ao L.length cap) := by rw [blk_cell hb2]; rfl
    have f1 : wr.frozen? ⟨b, 1, none⟩ = false := blk_frz hb2 1
    clear hb2
    have hz := hu.size
    obtain ⟨hs, hhs⟩ : ∃ hs, hasL (L.take j) x = hs := ⟨_, rfl⟩
    by_cases hlt : j < L.length
    · obtain ⟨t, ht⟩ : ∃ t, L[j]? = some t := ⟨L[j], List.getElem?_eq_getElem hlt⟩
      obtain ⟨g, o, rfl, hg, e0, e1⟩ := (hrh.out.up hu).at ht
      have hst := Lib.hid (stop_take (x := x) ht)
      rw [hhs] at hst ⊢
      obtain ⟨n, a⟩ := t
      simp only [] at e0 e1 hst
      clear ht hhs
      by_cases hn : n = x
      · subst hn
        have hf := Lib.hid (show stopL (L.take (j + 1)) n = stopL (L.take j) n ∧ hasL (L.take (j + 1)) n = true from ⟨by rw [hst.out.1]; simp, by rw [hst.out.2]; simp⟩)
        go_wp2_with (first | (with_reducible refine wp_serial (by kernel_rfl) (by kernel_rfl) (by (repeat (first | (with_reducible apply NoBad.then) | (with_reducible apply NoBad.inBlock) | (with_reducible apply NoBad.jump) | (with_reducible exact NoBad.rets))); done) ?_) | fail)
        go_roundw
        case rel => exact ⟨j + 1, k, ao', cap', by omega, by go_num, by omega, rfl, by rw [hf.out.2], (by (repeat (first | (with_reducible exact Upd.refl _ _) | (with_reducible assumption) | (with_reducible apply Upd.drew) | (with_reducible apply Upd.alloc) | (refine Upd0.tr ?_ (by with_reducible assumption)) | (refine Upd.setCell ?_ (fun h => absurd h (by first | exact Nat.lt_irrefl _ | (simp only []; omega))) _))); done), Lib.hid (by rw [hf.out.1]; exact hk.out), Lib.hid (by rw [hf.out.1]; exact ho.out)⟩
        case measure => simp [intOf]; omega
      · have hf := Lib.hid (show stopL (L.take (j + 1)) x = stopL (L.take j) x ++ [⟨n, a⟩] ∧ hasL (L.take (j + 1)) x = hs from ⟨by rw [hst.out.1, if_neg hn], by rw [hst.out.2, decide_eq_false hn, Bool.or_false]⟩)
        have hnb : (n == x) = false := beq_eq_false_iff_ne.2 hn
        have ho0 := Lib.hid (ownsRow_mono ho.out (fun _ _ => Nat.zero_le _) : wr.ownsRow 0 _ _ _ _ _)
        clear hst hn
        go_wp2_with (first
          | (at_builtin; (refine wpList_app (w := wr) (by (repeat (first | exact Ext.refl _ | assumption | apply Ext.drew | apply Ext.alloc)); done) rfl (.tmp 27) (.tmp 35) 29 rfl 43 i1 _ 2 24 Try.underlying29 hj hy0 hy1 hy2 rfl (by decide) (.slice ao' k cap') k (tms (stopL (L.take j) x)) ho0.out rfl wr.heap.size 1 1 [.string ⟨n.toArray⟩, .int .i64 a] rfl rfl (alloc_last _ _ _ (by simp)) (by rfl) (by omega) (by omega) ?_; intro ao7 cap7 w7 hr7 hu7 hf7; have hr7h := Lib.hid hr7; have hu7h := Lib.hid hu7; have hf7h := Lib.hid hf7; clear hr7 hu7 hf7))
          | (with_reducible refine wp_serial (by kernel_rfl) (by kernel_rfl) (by (repeat (first | (with_reducible apply NoBad.then) | (with_reducible apply NoBad.inBlock) | (with_reducible apply NoBad.jump) | (with_reducible exact NoBad.rets))); done) ?_) | fail)
        have hU : Upd0 w w7 := Upd.trans (show Upd0 w (wr.alloc _) from (by (repeat (first | (with_reducible exact Upd.refl _ _) | (with_reducible assumption) | (with_reducible apply Upd.drew) | (with_reducible apply Upd.alloc) | (refine Upd0.tr ?_ (by with_reducible assumption)) | (refine Upd.setCell ?_ (fun h => absurd h (by first | exact Nat.lt_irrefl _ | (simp only []; omega))) _))); done)) hu7h.out (fun q hq hs => absurd hq (by have := (ho.out.lt q hs).1; omega))
        go_roundw
        case rel => exact ⟨j + 1, k + 1, ao7, cap7, by omega, by go_num, by omega, rfl, by rw [hf.out.2], hU, Lib.hid (by rw [hf.out.1, List.length_append, ← hk.out]; rfl), Lib.hid (by
            rw [hf.out.1]
            have h3 := ownsRow_mono (B' := w.heap.size) hr7h.out (fun q hq => by
              rcases hf7h.out q hq with h | h
              · exact (ho.out.lt q h).1
              · simp only [World.size_alloc] at h; omega)
            simpa [tms, Tm.cells] using h3)⟩
        case measure => simp [intOf]; omega
    · have hjl : j = L.length := by omega
      subst hjl
      rw [List.take_length] at hk ho hhs
      rw [List.take_length]
      have hkk := hk.out
      subst hkk
      have hcp := own_cap ho.out
      have hfin := Lib.hid (hh.out.store hu hcp (TmR.own ho.out))
      go_wp2_with (first | (with_reducible refine wp_serial (by kernel_rfl) (by kernel_rfl) (by (repeat (first | (with_reducible apply NoBad.then) | (with_reducible apply NoBad.inBlock) | (with_reducible apply NoBad.jump) | (with_reducible exact NoBad.rets))); done) ?_) | fail)
      all_goals go_returns
      all_goals exact ⟨rfl, hfin.out.2, hfin.out.1⟩
end Go.Proofs.Ytkkncnffkmopbaa
