/-
  The document's cache: Put, where nothing may be written; what a list that is stored makes of the cache.
-/
import Derived.Test.YtijmbpokglohbaaCaS
namespace Go.Proofs.Ytijmbpokglohbaa
open Go.RowKit Go.Maps
set_option linter.unusedSimpArgs false
set_option linter.unusedVariables false
variable {B : Nat}
theorem rtimeC_w (a : Int) (w : World) : Calls Try.prog 62 #[.int .i64 a] w (Rets fun r w' => r = .bool (decide (0 ≤ a) && decide (a ≤ 1099511627776)) ∧ Upd0 w w') := by
  by_cases h1 : 0 ≤ a
  · go_enter Try.func62, Try.ntmps62
    go_wp2_with (first | (with_reducible refine wp_serial (by kernel_rfl) (by kernel_rfl) (by repeat with_reducible (first | apply NoBad.then | apply NoBad.inBlock | apply NoBad.jump | exact NoBad.rets)) ?_) | fail)
    all_goals go_returns
    all_goals exact ⟨by simp [h1], (by repeat first | with_reducible (first | exact Upd.refl _ _ | assumption | apply Upd.drew | apply Upd.alloc) | refine Upd0.tr ?_ (by with_reducible assumption) | refine Upd.setCell ?_ (fun h => absurd h (by first | exact Nat.lt_irrefl _ | (simp only []; omega))) _)⟩
  · go_enter Try.func62, Try.ntmps62
    go_wp2_with (first | (with_reducible refine wp_serial (by kernel_rfl) (by kernel_rfl) (by repeat with_reducible (first | apply NoBad.then | apply NoBad.inBlock | apply NoBad.jump | exact NoBad.rets)) ?_) | fail)
    all_goals go_returns
    all_goals exact ⟨by rw [decide_eq_false (show ¬ 0 ≤ a by omega)]; rfl, (by repeat first | with_reducible (first | exact Upd.refl _ _ | assumption | apply Upd.drew | apply Upd.alloc) | refine Upd0.tr ?_ (by with_reducible assumption) | refine Upd.setCell ?_ (fun h => absurd h (by first | exact Nat.lt_irrefl _ | (simp only []; omega))) _)⟩
theorem RcIs.putL {w w5 : World} {t : Nat} {v v' : Value} {c : CS} {M M' : List RE} {L' : List CE} (h : RcIs B w t v c M) (hu : Upd0 w w5) (row : w5.ownsRow 0 112 7 v' M'.length (res M')) (hf : ∀ b, v'.ownBlock = some b → w.heap.size ≤ b) (hB : B ≤ w.heap.size) (abs : M'.map (·.e) = L') (dat : ∀ m ∈ M', m ∈ M) :
    RcIs B (w5.setCell ⟨t, 2, none⟩ v') t v' { c with L := L' } M' ∧ UpdC B w (w5.setCell ⟨t, 2, none⟩ v') := by
  have htl := blk_lt h.blk
  have hset : Upd (fun n => n = t) w5 (w5.setCell ⟨t, 2, none⟩ v') := (Upd.refl (fun n => n = t) w5).setCell (p := ⟨t, 2, none⟩) (fun _ => rfl) _
  have hb5 := hu.block (fun h => h) h.blk
  refine ⟨⟨by simpa using blk_set hb5 2 v', ownsRow_upd row hset fun g hg e => ?_, abs, fun m hm => ((h.dat m (dat m hm)).to hu (fun _ _ _ _ h => h)).to hset fun g cur fz hg e => ?_, h.lo.1, fun b hb => by have := hf b hb; omega⟩, ?_⟩
  · have := hf g hg
    omega
  · rw [e, hb5] at hg
    injection hg with hg
    injection hg with _ hg _
    exact absurd hg (by decide)
  · refine Upd.trans (S := fun b => B ≤ b ∧ kindS w.heap[b]? = true) (UpdC.of0 hu) hset fun n hn e => ?_
    subst e
    exact ⟨h.lo.1, by rw [h.blk]; rfl⟩
theorem RcIs.putN {w : World} {t : Nat} {v : Value} {c : CS} {M : List RE} (h : RcIs B w t v c M) (n : Int) :
    RcIs B (w.setCell ⟨t, 3, none⟩ (.int .i64 n)) t v { c with N := n } M ∧ UpdC B w (w.setCell ⟨t, 3, none⟩ (.int .i64 n)) := by
  have hset : Upd (fun n => n = t) w (w.setCell ⟨t, 3, none⟩ (.int .i64 n)) := (Upd.refl (fun n => n = t) w).setCell (p := ⟨t, 3, none⟩) (fun _ => rfl) _
  refine ⟨⟨by simpa using blk_set h.blk 3 (.int .i64 n), ownsRow_upd h.row hset fun g hg e => ?_, h.abs, fun m hm => (h.dat m hm).to hset fun g cur fz hg e => ?_, h.lo⟩, ?_⟩
  · obtain ⟨cur, hc⟩ := kind_row7 h.row hg
    rw [e, h.blk] at hc
    injection hc with hc
    injection hc with _ hc _
    exact absurd hc (by decide)
  · rw [e, h.blk] at hg
    injection hg with hg
    injection hg with _ hg _
    exact absurd hg (by decide)
  · exact hset.mono fun n hn e => by subst e; exact ⟨h.lo.1, by rw [h.blk]; rfl⟩
theorem find_at {L : List CE} (h : KNe L) {i : Nat} {e : CE} (hi : L[i]? = some e) {nm : Bs} {ty : Int} (hk : e.nm = nm ∧ e.ty = ty) : L.find? (isK nm ty) = some e := by
  cases hf : L.find? (isK nm ty) with
  | none => rw [List.find?_eq_none] at hf; exact absurd (isK_iff.2 hk) (hf e (List.mem_of_getElem? hi))
  | some x =>
    obtain ⟨j, hj⟩ := List.mem_iff_getElem?.1 (List.mem_of_find?_eq_some hf)
    have hx := isK_iff.1 (List.find?_some hf)
    have := kne_get h hj hi (hx.1.trans hk.1.symm) (hx.2.trans hk.2.symm)
    subst this
    rw [hi] at hj
    exact hj.symm
theorem find_nil {L : List CE} {nm : Bs} {ty : Int} (h : ∀ e ∈ L, ¬ (e.nm = nm ∧ e.ty = ty)) : L.find? (isK nm ty) = none ∧ dropK L nm ty = L := by
  refine ⟨List.find?_eq_none.2 fun e he hk => h e he (isK_iff.1 hk), ?_⟩
  unfold dropK
  rw [List.filter_eq_self]
  intro e he
  cases hk : isK nm ty e
  · rfl
  · exact absurd (isK_iff.1 hk) (h e he)
/-- find of anything -/
theorem rfind_w (t : Nat) (v : Value) (c : CS) (M : List RE) (nm : Bs) (ty : Int) (w : World) (h : RcIs B w t v c M) (hok : COk c) :
    Calls Try.prog 63 #[.pointer (some ⟨t, 0, none⟩), .string ⟨nm.toArray⟩, .int .i64 ty] w (Rets fun r w' => ∃ i : Int, r = .int .i64 i ∧ Upd0 w w' ∧ ((i = -1 ∧ ∀ e ∈ c.L, ¬ (e.nm = nm ∧ e.ty = ty)) ∨ ∃ (k : Nat) (m : RE), i = k ∧ M[k]? = some m ∧ m.e.nm = nm ∧ m.e.ty = ty)) := by
  have hl := (h.len hok).1
  by_cases hx : ∃ (k : Nat) (m : RE), M[k]? = some m ∧ m.e.nm = nm ∧ m.e.ty = ty
  · obtain ⟨k, m, h1, h2, h3⟩ := hx
    refine (rfind_hit t v c M nm ty k m w h hl h1 h2 h3 fun j x hj hk => ?_).use fun r w' ⟨e, hu⟩ => ⟨k, e, hu, .inr ⟨k, m, rfl, h1, h2, h3⟩⟩
    have a1 : c.L[k]? = some m.e := by rw [← h.abs, List.getElem?_map, h1]; rfl
    have a2 : c.L[j]? = some x.e := by rw [← h.abs, List.getElem?_map, hj]; rfl
    exact kne_get hok.keys a2 a1 (hk.1.trans h2.symm) (hk.2.trans h3.symm)
  · refine (rfind_miss t v c M nm ty w h hl fun j x hj hk => hx ⟨j, x, hj, hk⟩).use fun r w' ⟨e, hu⟩ => ⟨-1, e, hu, .inl ⟨rfl, fun e he hk => ?_⟩⟩
    rw [← h.abs] at he
    obtain ⟨m, hm, rfl⟩ := List.mem_map.1 he
    obtain ⟨j, hj⟩ := List.mem_iff_getElem?.1 hm
    exact hx ⟨j, m, hj, hk⟩
set_option maxRecDepth 100000 in
set_option maxHeartbeats 2000000 in
theorem rput_bad (t : Nat) (s : St) (ao : Option Addr) (cap : Nat) (rk now : Int) (w : World) (hf : fewS s = true) (hb : putB s rk now = false) (hS : SR w ao s.dt) :
    Calls Try.prog 35 #[.pointer (some ⟨t, 0, none⟩), s.val ao cap, .int .i64 rk, .int .i64 now] w (Rets fun r w' => r = .int .i64 1 ∧ Upd0 w w') := by
  obtain ⟨f1, f2, f3⟩ := fewS_num hf
  have g1 : s.nm.length ≤ 70000 := by omega
  have g2 : ∀ d ∈ s.dt, d.length ≤ 70000 := fun d hd => by have := f3 d hd; omega
  have g3 : s.dt.length ≤ 20 := by omega
  have hw := Lib.hid (fun (w' : World) (g : Nat) (h : w'.heap[g]? = some (.cells (setC s ao cap) 60 (0, 0))) (k : SR w' ao s.dt) => rcheck1_w s g ao cap g1 g2 g3 w' h k)
  have hSh := Lib.hid hS
  have hd1 : mayS s = false ∨ (mayS s = true ∧ rk < 1) ∨ (mayS s = true ∧ ¬ rk < 1 ∧ 5 < rk) ∨ (mayS s = true ∧ (¬ rk < 1 ∧ ¬ 5 < rk) ∧ (decide (0 ≤ now) && decide (now ≤ 1099511627776)) = false) := by
    revert hb
    rw [putB]
    cases mayS s
    · simp
    · by_cases h1 : rk < 1
      · simp [h1]
      · by_cases h2 : 5 < rk
        · simp [h1, h2]
        · rw [decide_eq_true (show 1 ≤ rk by omega), decide_eq_true (show rk ≤ 5 by omega)]
          simp [h1, h2]
  clear hb hS f1 f2 f3 g1 g2 g3 hf
  rcases hd1 with h1 | ⟨h1, h2⟩ | ⟨h1, h2, h3⟩ | ⟨h1, ⟨h2, h3⟩, h4⟩
  · have hck := Lib.hid (ckS_no h1)
    obtain ⟨nm, ty, tl, dt⟩ := s
    simp only [St.val] at hw hSh hck ⊢
    clear h1
    go_enter Try.func35, Try.ntmps35
    go_wp2_with (first
      | (go_at_call 61; refine (hw.out _ _ (alloc_last _ _ _ (by simp)) (hSh.out.up (by repeat first | with_reducible (first | exact Upd.refl _ _ | assumption | apply Upd.drew | apply Upd.alloc) | refine Upd0.tr ?_ (by with_reducible assumption) | refine Upd.setCell ?_ (fun h => absurd h (by first | exact Nat.lt_irrefl _ | (simp only []; omega))) _))).use ?_; rintro v w1 ⟨rfl, hu1⟩; rw [hck.out])
      | (with_reducible refine wp_serial (by kernel_rfl) (by kernel_rfl) (by repeat with_reducible (first | apply NoBad.then | apply NoBad.inBlock | apply NoBad.jump | exact NoBad.rets)) ?_) | fail)
    all_goals go_returns
    all_goals exact ⟨rfl, (by repeat first | with_reducible (first | exact Upd.refl _ _ | assumption | apply Upd.drew | apply Upd.alloc) | refine Upd0.tr ?_ (by with_reducible assumption) | refine Upd.setCell ?_ (fun h => absurd h (by first | exact Nat.lt_irrefl _ | (simp only []; omega))) _)⟩
  all_goals
    have hck := Lib.hid (ckS_yes h1)
    obtain ⟨nm, ty, tl, dt⟩ := s
    simp only [St.val] at hw hSh hck ⊢
    clear h1
    try (have h4h := Lib.hid h4; clear h4)
    go_enter Try.func35, Try.ntmps35
    go_wp2_with (first
      | (go_at_call 61; refine (hw.out _ _ (alloc_last _ _ _ (by simp)) (hSh.out.up (by repeat first | with_reducible (first | exact Upd.refl _ _ | assumption | apply Upd.drew | apply Upd.alloc) | refine Upd0.tr ?_ (by with_reducible assumption) | refine Upd.setCell ?_ (fun h => absurd h (by first | exact Nat.lt_irrefl _ | (simp only []; omega))) _))).use ?_; rintro v w1 ⟨rfl, hu1⟩; rw [hck.out])
      | (go_at_call 62; (with_reducible refine (rtimeC_w now _).use ?_); rintro v w3 ⟨rfl, hu3⟩; rw [h4h.out])
      | (with_reducible refine wp_serial (by kernel_rfl) (by kernel_rfl) (by repeat with_reducible (first | apply NoBad.then | apply NoBad.inBlock | apply NoBad.jump | exact NoBad.rets)) ?_) | fail)
    all_goals go_returns
    all_goals exact ⟨rfl, (by repeat first | with_reducible (first | exact Upd.refl _ _ | assumption | apply Upd.drew | apply Upd.alloc) | refine Upd0.tr ?_ (by with_reducible assumption) | refine Upd.setCell ?_ (fun h => absurd h (by first | exact Nat.lt_irrefl _ | (simp only []; omega))) _)⟩
end Go.Proofs.Ytijmbpokglohbaa
