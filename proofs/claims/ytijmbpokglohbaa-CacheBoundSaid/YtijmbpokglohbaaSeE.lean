/-
  Copies of a set's data; equality of sets.
-/
import Derived.Test.YtijmbpokglohbaaSeD
namespace Go.Proofs.Ytijmbpokglohbaa
open Go.RowKit
set_option linter.unusedSimpArgs false
set_option linter.unusedVariables false
theorem sr_updN {S : Nat → Prop} {w w' : World} {ao : Option Addr} {L : List Bs} (h : SR w ao L) (k : Upd S w w') (hS : ∀ g o, ao = some ⟨g, o, none⟩ → ¬ S g) : SR w' ao L := by
  rcases h with rfl | ⟨g, o, h1, h2, h3⟩
  · exact .inl rfl
  · exact .inr ⟨g, o, h1, Nat.lt_of_lt_of_le h2 k.size, fun i x hx => k.cell (hS g o h1) (h3 i x hx)⟩
theorem cells_s {w : World} {ad : Addr} {L : List Bs} (h : SR w (some ad) L) : ∀ j u, (strs L)[j]? = some u → w.cell? (ad.add j) = some u := by
  intro j u hj
  rcases h with rfl | ⟨g, o, h1, h2, h3⟩
  · simp [strs] at hj
  · injection h1 with h1
    subst h1
    rw [Addr.add_lit]
    simp only [strs, List.getElem?_map, Option.map_eq_some_iff] at hj
    obtain ⟨x, hx, rfl⟩ := hj
    exact h3 j x hx
theorem one_s (L : List Bs) : ∀ u ∈ strs L, u.oneCell' = true := by
  intro u hu
  simp only [strs, List.mem_map] at hu
  obtain ⟨x, _, rfl⟩ := hu
  rfl
theorem sr_nil {w : World} {L : List Bs} (h : SR w none L) : L = [] := by
  rcases h with h | ⟨g, o, h, _⟩
  · exact h
  · cases h
/-- a slice's block, told by what it owns -/
theorem own_typ {w : World} {B : Nat} {e : TypeId} {s : Nat} {g o n cap : Nat} {xs : List Value} (h : w.ownsRow B e s (.slice (some ⟨g, o, none⟩) n cap) n xs) : ∃ cur, w.heap[g]? = some (.cells cur e (0, 0)) := by
  rcases h.2 with ⟨h, h2⟩ | ⟨g', cp, cur, hv, _⟩
  · cases h
  · injection hv with h3 h4 h5
    injection h3 with h3
    injection h3 with h3 h6
    subst h3 h6
    obtain ⟨cur, h1, _⟩ := ownsRow_blk h
    exact ⟨cur, h1⟩
set_option maxRecDepth 100000 in
theorem clones_w (ao : Option Addr) (cap : Nat) (xs : List Bs) (w : World) (h : SR w ao xs) (hl : xs.length ≤ 5000) :
    Calls Try.prog 60 #[.slice ao xs.length cap] w (Rets fun r w' => ∃ ao' cap', r = .slice ao' xs.length cap' ∧ SR w' ao' xs ∧ Upd0 w w' ∧ (∀ g o, ao' = some ⟨g, o, none⟩ → w.heap.size ≤ g ∧ ∃ cur, w'.heap[g]? = some (.cells cur 9 (0, 0)))) := by
  obtain ⟨i0, hi, hz0, hz1, hz2⟩ := info_parts info_str
  have q22 : ∀ (w : World) (a : Option Addr) (n c n' c' : Nat), (binOp .eql 43 (.slice a n c) (.slice none n' c')).run Try.prog w = .ok (.bool a.isNone) w := fun w a n c n' c' => Lib.run_eql_slice_nil w _ _ a n c n' c' Try.underlying43
  have hh := Lib.hid h
  clear h
  cases ao with
  | none =>
    obtain rfl := sr_nil hh.out
    go_enter Try.func60, Try.ntmps60
    go_wp2_with (first | (with_reducible refine wp_serial (by kernel_rfl) (by kernel_rfl) (by repeat with_reducible (first | apply NoBad.then | apply NoBad.inBlock | apply NoBad.jump | exact NoBad.rets)) ?_) | fail)
    all_goals go_returns
    all_goals exact ⟨none, _, rfl, .inl rfl, (by repeat first | with_reducible (first | exact Upd.refl _ _ | assumption | apply Upd.drew | apply Upd.alloc) | refine Upd0.tr ?_ (by with_reducible assumption) | refine Upd.setCell ?_ (fun h => absurd h (by first | exact Nat.lt_irrefl _ | (simp only []; omega))) _), fun g o h => by cases h⟩
  | some ad =>
    have hlen : (strs xs).length = xs.length * 1 := by simp [strs]
    go_enter Try.func60, Try.ntmps60
    go_wp2_with (first
      | (at_builtin; refine wpList_appx (w := _) (Ext.refl _) rfl (.tmp 5) (.tmp 6) 43 rfl 9 i0 _ 1 16 Try.underlying43 hi hz0 hz1 hz2 rfl (by decide) (.slice (some ⟨w.heap.size, 0, none⟩) 0 0) 0 [] (ownsRow_mk (cur := #[]) (alloc_last _ _ _ (by simp)) (Nat.le_refl _) (Nat.zero_le _) (by simp) (by simp)) rfl ad xs.length cap _ rfl hlen (cells_s (hh.out.up (by repeat first | with_reducible (first | exact Upd.refl _ _ | assumption | apply Upd.drew | apply Upd.alloc) | refine Upd0.tr ?_ (by with_reducible assumption) | refine Upd.setCell ?_ (fun h => absurd h (by first | exact Nat.lt_irrefl _ | (simp only []; omega))) _))) (one_s xs) (by omega) (by omega) ?_; intro ao' cap' w3 hr3 hu3 hf3; have hr3h := Lib.hid hr3; have hu3h := Lib.hid hu3; have hf3h := Lib.hid hf3; clear hr3 hu3 hf3)
      | (with_reducible refine wp_serial (by kernel_rfl) (by kernel_rfl) (by repeat with_reducible (first | apply NoBad.then | apply NoBad.inBlock | apply NoBad.jump | exact NoBad.rets)) ?_) | fail)
    all_goals go_returns
    all_goals exact ⟨_, _, rfl, own_sr (by simpa using hr3h.out) rfl, Upd.trans (show Upd0 w _ from (by repeat first | with_reducible (first | exact Upd.refl _ _ | assumption | apply Upd.drew | apply Upd.alloc) | refine Upd0.tr ?_ (by with_reducible assumption) | refine Upd.setCell ?_ (fun h => absurd h (by first | exact Nat.lt_irrefl _ | (simp only []; omega))) _)) hu3h.out (fun n hn e => by simp [Value.ownBlock] at e; omega), fun g o e => by
      subst e
      refine ⟨?_, own_typ hr3h.out⟩
      rcases hf3h.out g rfl with e | e
      · simp [Value.ownBlock] at e; omega
      · simp at e; omega⟩
set_option maxRecDepth 100000 in
set_option maxHeartbeats 1000000 in
theorem copy1_w (s : St) (ao : Option Addr) (cap : Nat) (hl : s.dt.length ≤ 5000) (h1 : 1 ≤ s.dt.length) (w : World) (h : SR w ao s.dt) :
    Calls Try.prog 65 #[s.val ao cap] w (Rets fun r w' => ∃ ao' cap', r = s.val ao' cap' ∧ SR w' ao' s.dt ∧ Upd0 w w' ∧ (∀ g o, ao' = some ⟨g, o, none⟩ → w.heap.size ≤ g ∧ ∃ cur, w'.heap[g]? = some (.cells cur 9 (0, 0)))) := by
  obtain ⟨i0, hi, hz0, hz1, hz2⟩ := info_parts info_str
  have hh := Lib.hid h
  obtain ⟨g, o, rfl, hg, _⟩ := h.some (show 0 < s.dt.length by omega)
  clear h
  have hlen : (strs s.dt).length = s.dt.length * 1 := by simp [strs]
  obtain ⟨nm, ty, tl, dt⟩ := s
  simp only [St.val] at hl h1 hh hlen ⊢
  go_enter Try.func65, Try.ntmps65
  go_wp2_with (first
    | (at_builtin; refine wpList_appx (w := _) (Ext.refl _) rfl _ (.tmp 6) 43 rfl 9 i0 _ 1 16 Try.underlying43 hi hz0 hz1 hz2 rfl (by decide) (.slice none 0 0) 0 [] (World.ownsRow_nil _ _ _ _) rfl ⟨g, o, none⟩ dt.length cap _ rfl hlen (cells_s (hh.out.up (by repeat first | with_reducible (first | exact Upd.refl _ _ | assumption | apply Upd.drew | apply Upd.alloc) | refine Upd0.tr ?_ (by with_reducible assumption) | refine Upd.setCell ?_ (fun h => absurd h (by first | exact Nat.lt_irrefl _ | (simp only []; omega))) _))) (one_s dt) (by omega) (by omega) ?_; intro ao' cap' w3 hr3 hu3 hf3; have hr3h := Lib.hid hr3; have hu3h := Lib.hid hu3; have hf3h := Lib.hid hf3; have b3 : w3.heap[w.heap.size + 1 + 1]? = _ := hu3h.out.block (by simp [Value.ownBlock]) (alloc_last _ _ _ (by simp)); obtain ⟨y0, y1, y2, y3⟩ := set4 b3; have y4 := blk_frz b3 0; have y5 := blk_frz b3 1; have y6 := blk_frz b3 2; have y7 := blk_frz b3 3; have b2 : w3.heap[w.heap.size + 1]? = _ := hu3h.out.block (by simp [Value.ownBlock]) (blk_alloc (alloc_last _ _ _ (by simp))); obtain ⟨x0, x1, x2, x3⟩ := set4 b2; have x4 := blk_frz b2 0; have x5 := blk_frz b2 1; have x6 := blk_frz b2 2; have x7 := blk_frz b2 3; have hz3 := hu3h.out.size; have b2h := Lib.hid b2; clear hr3 hu3 hf3 b3 b2)
    | (with_reducible refine wp_serial (by kernel_rfl) (by kernel_rfl) (by repeat with_reducible (first | apply NoBad.then | apply NoBad.inBlock | apply NoBad.jump | exact NoBad.rets)) ?_) | fail)
  have k1 := b2h.out
  have k2 : (w3.setCell ⟨w.heap.size + 1 + 1, 3, none⟩ (.slice ao' dt.length cap')).heap[w.heap.size + 1]? = _ := (blk_set_other (w := w3) (by omega) 3 (.slice ao' dt.length cap')).trans k1
  have k3 := blk_set k2 0 (.string ⟨nm.toArray⟩)
  have k4 := blk_set k3 1 (.int .i64 ty)
  have k5 := blk_set k4 2 (.int .i64 tl)
  have k6 := blk_set k5 3 (.slice ao' dt.length cap')
  have z0 := (blk_cell k3 0).trans (show _ = some (.string ⟨nm.toArray⟩) from rfl)
  have z1 := (blk_cell k4 1).trans (show _ = some (.int .i64 ty) from rfl)
  have z2 := (blk_cell k5 2).trans (show _ = some (.int .i64 tl) from rfl)
  have z3 := (blk_cell k6 3).trans (show _ = some (.slice ao' dt.length cap') from rfl)
  clear k1 k2 k3 k4 k5 k6
  all_goals (refine bodyPost_ret (by simp [results, Try.results65, go_sem, z0, z1, z2, z3]; try rfl) rfl ?_)
  all_goals
    have hW : Upd (fun n => n = w.heap.size + 1 + 1 ∨ n = w.heap.size + 1) w3 (((((w3.setCell ⟨w.heap.size + 1 + 1, 3, none⟩ (.slice ao' dt.length cap')).setCell ⟨w.heap.size + 1, 0, none⟩ (.string ⟨nm.toArray⟩)).setCell ⟨w.heap.size + 1, 1, none⟩ (.int .i64 ty)).setCell ⟨w.heap.size + 1, 2, none⟩ (.int .i64 tl)).setCell ⟨w.heap.size + 1, 3, none⟩ (.slice ao' dt.length cap')) :=
      (((((Upd.refl _ w3).setCell (p := ⟨w.heap.size + 1 + 1, 3, none⟩) (fun _ => .inl rfl) _).setCell (p := ⟨w.heap.size + 1, 0, none⟩) (fun _ => .inr rfl) _).setCell (p := ⟨w.heap.size + 1, 1, none⟩) (fun _ => .inr rfl) _).setCell (p := ⟨w.heap.size + 1, 2, none⟩) (fun _ => .inr rfl) _).setCell (p := ⟨w.heap.size + 1, 3, none⟩) (fun _ => .inr rfl) _
    have hnew : ∀ gg oo, ao' = some ⟨gg, oo, none⟩ → w.heap.size + 3 ≤ gg := fun gg oo e => by
      subst e
      rcases hf3h.out gg (by
        have := ownsRow_some hr3h.out (by omega)
        obtain ⟨g', e'⟩ := this
        cases e'
        rfl) with e | e
      · simp [Value.ownBlock] at e
      · simp at e; omega
    exact ⟨ao', ⟨cap', rfl⟩, sr_updN (own_sr (by simpa using hr3h.out) rfl) hW (fun gg oo e h => by have := hnew gg oo e; omega), Upd.trans (Upd.trans (show Upd0 w _ from (by repeat first | with_reducible (first | exact Upd.refl _ _ | assumption | apply Upd.drew | apply Upd.alloc) | refine Upd0.tr ?_ (by with_reducible assumption) | refine Upd.setCell ?_ (fun h => absurd h (by first | exact Nat.lt_irrefl _ | (simp only []; omega))) _)) hu3h.out (fun n hn e => by simp [Value.ownBlock] at e)) hW (fun n hn e => by omega), fun gg oo e => ⟨by have := hnew gg oo e; omega, by
      obtain ⟨cur, hcur⟩ := own_typ (g := gg) (o := oo) (by rw [← e]; exact hr3h.out)
      exact ⟨cur, hW.block (fun h => by have := hnew gg oo e; omega) hcur⟩⟩⟩
end Go.Proofs.Ytijmbpokglohbaa
