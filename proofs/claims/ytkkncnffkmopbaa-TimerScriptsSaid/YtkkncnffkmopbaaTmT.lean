/-
  The document's queue of timers: Due.
-/
import Derived.Test.YtkkncnffkmopbaaTmR
namespace Go.Proofs.Ytkkncnffkmopbaa
open Go.RowKit Go.Maps
set_option linter.unusedSimpArgs false
set_option linter.unusedVariables false
theorem due_split {L : List Tm} {k : Nat} {now : Int} (h1 : ∀ t ∈ L.take k, t.a ≤ now) (h2 : ∀ t, L[k]? = some t → now < t.a) : dueN L now = (L.take k).map (·.n) ∧ dueL L now = L.drop k := by
  induction L generalizing k with
  | nil => simp [dueN, dueL]
  | cons y L ih =>
    cases k with
    | zero =>
      have := h2 y rfl
      have h : ¬ y.a ≤ now := by omega
      simp [dueN, dueL, h]
    | succ k =>
      have hy : y.a ≤ now := h1 y (by simp)
      have := ih (k := k) (fun t ht => h1 t (by simp [ht])) (fun t ht => h2 t (by simpa using ht))
      unfold dueN dueL at this ⊢
      simp only [List.takeWhile_cons, List.dropWhile_cons, hy, decide_true, if_true, List.map_cons, List.take_succ_cons, List.drop_succ_cons]
      exact ⟨by rw [this.1], this.2⟩
theorem sr_own {w : World} {B : Nat} {ao : Option Addr} {n cap : Nat} {L : List Bs} (h : w.ownsRow B 9 1 (.slice ao n cap) n (strs L)) : SR w ao L := by
  have hn : L.length = n := by have := h.1; simpa [strs] using this
  by_cases h0 : n = 0
  · exact .inl (List.eq_nil_of_length_eq_zero (by omega))
  · obtain ⟨g, rfl⟩ := ownsRow_some h (by omega)
    refine .inr ⟨g, 0, rfl, ownsRow_lt h rfl, fun i x hx => ?_⟩
    rw [Nat.zero_add]
    exact ownsRow_cell h rfl (by simp [strs, hx])
theorem rq_cut {w : World} {b : Nat} {room : Int} {g o m cap : Nat} {L : List Tm} (hb : w.heap[b]? = some (.cells #[.int .i64 room, .slice (some ⟨g, o, none⟩) (m + 1) cap] 31 (0, 0))) (hr : TmR w (some ⟨g, o, none⟩) L) (hm : L.length = m + 1) (hcap : m + 1 ≤ cap) :
    Rq (w.setCell ⟨b, 1, none⟩ (.slice (if cap = 1 then some ⟨g, o, none⟩ else some ⟨g, o + 2, none⟩) m (cap - 1))) b room (L.drop 1) ∧ Upd (fun n => n = b) w (w.setCell ⟨b, 1, none⟩ (.slice (if cap = 1 then some ⟨g, o, none⟩ else some ⟨g, o + 2, none⟩) m (cap - 1))) := by
  have hl : (L.drop 1).length = m := by rw [List.length_drop]; omega
  have hset : ∀ v, Upd (fun n => n = b) w (w.setCell ⟨b, 1, none⟩ v) := fun v => (Upd.refl (fun n => n = b) w).setCell (p := ⟨b, 1, none⟩) (fun _ => rfl) v
  have hne : ∀ n, n = b → ∀ cur, w.heap[n]? ≠ some (.cells cur 43 (0, 0)) := fun n hn cur e => by
    rw [hn, hb] at e
    injection e with e
    injection e with _ e _
    cases e
  refine ⟨⟨_, cap - 1, by rw [hl]; simpa using blk_set hb 1 _, ⟨by omega, (fun h => by split at h <;> cases h), fun ad h => by split at h <;> (cases h; exact ⟨_, _, rfl⟩)⟩, ?_⟩, hset _⟩
  by_cases hc : cap = 1
  · have : L.drop 1 = [] := List.eq_nil_of_length_eq_zero (by omega)
    rw [this]; exact .inl rfl
  · rw [if_neg hc]
    exact (hr.drop 1).upd (hset _) hne
set_option maxRecDepth 100000 in
set_option maxHeartbeats 1000000 in
theorem rdue_w (b : Nat) (room : Int) (L : List Tm) (now : Int) (hl : L.length ≤ 1000) (w : World) (h : Rq w b room L) : Calls Try.prog 16 #[.pointer (some ⟨b, 0, none⟩), .int .i64 now] w (Rets fun r w' =>
    ∃ ao cap, r = .slice ao (dueN L now).length cap ∧ SR w' ao (dueN L now) ∧ Upd (fun n => n = b) w w' ∧ Rq w' b room (dueL L now)) := by
  have hh := Lib.hid h
  have hbl := h.lt
  obtain ⟨i1, hj, hy0, hy1, hy2⟩ := info_parts info_str
  clear h
  go_enter Try.func16, Try.ntmps16
  go_wp2_with (first | (with_reducible refine wp_serial (by kernel_rfl) (by kernel_rfl) (by (repeat (first | (with_reducible apply NoBad.then) | (with_reducible apply NoBad.inBlock) | (with_reducible apply NoBad.jump) | (with_reducible exact NoBad.rets))); done) ?_) | fail)
  go_loopw [5] (fun vo wr => ∃ (k : Nat) (ao' : Option Addr) (cap' : Nat), k ≤ L.length ∧ vo = .slice ao' k cap' ∧ Upd (fun n => n = b) w wr ∧ Hid (Rq wr b room (L.drop k)) ∧ Hid (∀ t ∈ L.take k, t.a ≤ now) ∧
    Hid (wr.ownsRow w.heap.size 9 1 (.slice ao' k cap') k (strs ((L.take k).map (·.n))))) (fun vo _ => 1000 - (match vo with | .slice _ n _ => n | _ => 0))
  case atStart => exact ⟨0, none, 0, Nat.zero_le _, rfl, Upd.refl _ _, hh, Lib.hid (by simp), Lib.hid (World.ownsRow_nil _ _ _ _)⟩
  case round =>
    obtain ⟨k, ao', cap', hk, rfl, hu, hQ, hle, ho⟩ := hrel
    obtain ⟨ao, cap, hb, ⟨hcap, _⟩, hr⟩ := hQ.out
    have hrh := Lib.hid hr
    rw [List.length_drop] at hb hcap
    have hbh := Lib.hid hb
    have c0 : wr.cell? ⟨b, 0, none⟩ = some (.int .i64 room) := by rw [blk_cell hb]; rfl
    have c1 : wr.cell? ⟨b, 1, none⟩ = some (.slice ao (L.length - k) cap) := by rw [blk_cell hb]; rfl
    have f1 : wr.frozen? ⟨b, 1, none⟩ = false := blk_frz hb 1
    have hz := hu.size
    clear hr hb
    by_cases hlt : k < L.length
    · obtain ⟨t, ht⟩ : ∃ t, L[k]? = some t := ⟨L[k], List.getElem?_eq_getElem hlt⟩
      obtain ⟨g, o, rfl, hg, e0, e1⟩ := hrh.out.at (i := 0) (x := t) (by rw [List.getElem?_drop]; exact ht)
      simp only [Nat.zero_mul, Nat.add_zero] at e0 e1
      obtain ⟨m, hm⟩ : ∃ m, L.length - k = m + 1 := ⟨L.length - k - 1, by omega⟩
      rw [hm] at c1 hcap
      have hth := Lib.hid ht
      obtain ⟨n, a⟩ := t
      simp only [] at e0 e1
      clear ht
      by_cases hd : a ≤ now
      · have ho0 := Lib.hid (ownsRow_mono ho.out (fun _ _ => Nat.zero_le _) : wr.ownsRow 0 _ _ _ _ _)
        go_wp2_with (first
          | (at_builtin; (refine wpList_app (w := wr) (by (repeat (first | exact Ext.refl _ | assumption | apply Ext.drew | apply Ext.alloc)); done) rfl (.tmp 23) (.tmp 31) 36 rfl 9 i1 (.string .empty) 1 16 Try.underlying36 hj hy0 hy1 hy2 rfl (by decide) (.slice ao' k cap') k (strs ((L.take k).map (·.n))) ho0.out rfl wr.heap.size 1 1 [.string ⟨n.toArray⟩] rfl rfl (alloc_last _ _ _ (by simp)) (by rfl) (by omega) (by omega) ?_; intro ao7 cap7 w7 hr7 hu7 hf7; have hr7h := Lib.hid hr7; have hu7h := Lib.hid hu7; have hf7h := Lib.hid hf7; clear hr7 hu7 hf7; have b7 := Lib.hid ((hu7h.out.keep b (by simp; omega) (fun e => own_ne ho.out (fun cur e => by rw [hbh.out] at e; cases e) b e rfl)).trans ((Below.heap_alloc _ _ _ (by omega)).trans hbh.out)); have c17 : w7.cell? ⟨b, 1, none⟩ = some (.slice (some ⟨g, o, none⟩) (m + 1) cap) := (by rw [blk_cell b7.out, ← hm]; rfl); have f17 : w7.frozen? ⟨b, 1, none⟩ = false := blk_frz b7.out 1))
          | (with_reducible refine wp_serial (by kernel_rfl) (by kernel_rfl) (by (repeat (first | (with_reducible apply NoBad.then) | (with_reducible apply NoBad.inBlock) | (with_reducible apply NoBad.jump) | (with_reducible exact NoBad.rets))); done) ?_) | fail)
        have hr7 : TmR w7 (some ⟨g, o, none⟩) (L.drop k) := (hrh.out.up (show Upd0 wr (wr.alloc _) from (by (repeat (first | (with_reducible exact Upd.refl _ _) | (with_reducible assumption) | (with_reducible apply Upd.drew) | (with_reducible apply Upd.alloc) | (refine Upd0.tr ?_ (by with_reducible assumption)) | (refine Upd.setCell ?_ (fun h => absurd h (by first | exact Nat.lt_irrefl _ | (simp only []; omega))) _))); done))).upd hu7h.out (fun n hn cur e => by
          obtain ⟨cur2, he2⟩ : ∃ cur2, wr.heap[n]? = some (.cells cur2 9 (0, 0)) := by
            rcases ho.out.2 with ⟨h, _⟩ | ⟨g', cp, cur, hv, _, hg', _⟩
            · rw [h] at hn; cases hn
            · rw [hv] at hn; simp [Value.ownBlock] at hn; subst hn; exact ⟨cur, hg'⟩
          rw [blk_alloc he2] at e
          cases e)
        have hcut := Lib.hid (rq_cut (by rw [← hm]; exact b7.out) hr7 (by rw [List.length_drop]; omega) (by omega))
        have hu7b : Upd (fun n => n = b) w w7 := Upd.trans (hu.alloc _) hu7h.out (fun q hq hs => absurd hq (by have := (ho.out.lt q hs).1; omega))
        go_roundw
        case rel => exact ⟨k + 1, ao7, cap7, by omega, rfl, Upd.trans hu7b hcut.out.2 (fun _ _ h => h), Lib.hid (by have := hcut.out.1; rwa [List.drop_drop] at this), Lib.hid (fun t ht => by
            rw [List.take_add_one, hth.out] at ht
            rcases List.mem_append.1 ht with ht | ht
            · exact hle.out t ht
            · simp at ht; rw [ht]; exact hd), Lib.hid (by
            have h3 := ownsRow_mono (B' := w.heap.size) hr7h.out (fun q hq => by
              rcases hf7h.out q hq with h | h
              · exact (ho.out.lt q h).1
              · simp only [World.size_alloc] at h; omega)
            have e : strs ((L.take (k + 1)).map (·.n)) = strs ((L.take k).map (·.n)) ++ [.string ⟨n.toArray⟩] := by rw [List.take_add_one, hth.out]; simp [strs]
            rw [e]
            exact ownsRow_upd h3 hcut.out.2 (fun q hq e => by have := (h3.lt q hq).1; omega))⟩
        case measure => simp; omega
      · have hdh := Lib.hid (due_split hle.out (fun t' ht' => by rw [hth.out] at ht'; cases ht'; show now < a; omega))
        go_wp2_with (first | (with_reducible refine wp_serial (by kernel_rfl) (by kernel_rfl) (by (repeat (first | (with_reducible apply NoBad.then) | (with_reducible apply NoBad.inBlock) | (with_reducible apply NoBad.jump) | (with_reducible exact NoBad.rets))); done) ?_) | fail)
        all_goals go_returns
        all_goals
          have hlk : (dueN L now).length = k := by rw [hdh.out.1, List.length_map, List.length_take]; omega
          first | exact ⟨ao', cap', by rw [hlk]; rfl, by rw [hdh.out.1]; exact sr_own ho.out, hu, by rw [hdh.out.2]; exact hQ.out⟩ | exact ⟨ao', ⟨cap', by rw [hlk]; rfl⟩, by rw [hdh.out.1]; exact sr_own ho.out, hu, by rw [hdh.out.2]; exact hQ.out⟩
    · have hkl : k = L.length := by omega
      have hdh := Lib.hid (due_split hle.out (fun t' ht' => by rw [List.getElem?_eq_none (by omega)] at ht'; cases ht'))
      have hz0 : L.length - k = 0 := by omega
      rw [hz0] at c1
      go_wp2_with (first | (with_reducible refine wp_serial (by kernel_rfl) (by kernel_rfl) (by (repeat (first | (with_reducible apply NoBad.then) | (with_reducible apply NoBad.inBlock) | (with_reducible apply NoBad.jump) | (with_reducible exact NoBad.rets))); done) ?_) | fail)
      all_goals go_returns
      all_goals
        have hlk : (dueN L now).length = k := by rw [hdh.out.1, List.length_map, List.length_take]; omega
        first | exact ⟨ao', cap', by rw [hlk]; rfl, by rw [hdh.out.1]; exact sr_own ho.out, hu, by rw [hdh.out.2]; exact hQ.out⟩ | exact ⟨ao', ⟨cap', by rw [hlk]; rfl⟩, by rw [hdh.out.1]; exact sr_own ho.out, hu, by rw [hdh.out.2]; exact hQ.out⟩
end Go.Proofs.Ytkkncnffkmopbaa
