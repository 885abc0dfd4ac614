/-
  The order of names by their times, as the program's sort asks for it: cmp.Compare, cmp.Or, the closure.
-/
import Derived.Test.YtkkncnffkmopbaaTmS
import Derived.Test.YtkkncnffkmopbaaTmM
import Derived.Test.YtkkncnffkmopbaaSer3
import Derived.Sort.OwnSorted
namespace Go.Proofs.Ytkkncnffkmopbaa
open Go.RowKit Go.Maps
set_option linter.unusedSimpArgs false
set_option linter.unusedVariables false
/-- new blocks and draws alone -/
def Grw (w w' : World) : Prop := Upd0 w w' ∧ w.drawn ≤ w'.drawn
theorem drew_drawn (w : World) : w.drew.drawn = w.drawn + 1 := rfl
theorem alloc_drawn (w : World) (o : Obj) : (w.alloc o).drawn = w.drawn := rfl
theorem Grw.tr {w w' w'' : World} (h : Grw w w') (k : Grw w' w'') : Grw w w'' := ⟨h.1.tr k.1, Nat.le_trans h.2 k.2⟩
theorem Grw.eq {w w' : World} (h : Grw w w') : ∃ q os, w' = Sort.grow (w.drewN q) os := by
  obtain ⟨⟨h1, h2, h3, h4, h5⟩, h6⟩ := h
  refine ⟨w'.drawn - w.drawn, w'.heap.extract w.heap.size w'.heap.size, ?_⟩
  obtain ⟨hp, tp, dr, os, out⟩ := w'
  obtain ⟨hp0, tp0, dr0, os0, out0⟩ := w
  simp only at h1 h2 h3 h4 h5 h6
  subst h1 h2 h3
  simp only [Sort.grow, World.drewN]
  congr 1
  · apply Array.ext_getElem?
    intro i
    rw [Array.getElem?_append]
    split
    · rename_i hi; exact h5 i hi (fun h => h)
    · rename_i hi
      rw [Array.getElem?_extract]
      split
      · congr 1; omega
      · rw [Array.getElem?_eq_none (by omega)]
  · omega
set_option maxRecDepth 100000 in
theorem isNaN_int (a : Int) (w : World) : Calls Try.prog 29 #[.int .i64 a] w (Rets fun r w' => r = .bool false ∧ Grw w w') := by
  go_enter Try.func29, Try.ntmps29
  go_wp2_with (first | (with_reducible refine wp_serial (by kernel_rfl) (by kernel_rfl) (by (repeat (first | (with_reducible apply NoBad.then) | (with_reducible apply NoBad.inBlock) | (with_reducible apply NoBad.jump) | (with_reducible exact NoBad.rets))); done) ?_) | fail)
  all_goals go_returns
  all_goals exact ⟨by simp, (by (repeat (first | (with_reducible exact Upd.refl _ _) | (with_reducible assumption) | (with_reducible apply Upd.drew) | (with_reducible apply Upd.alloc) | (refine Upd0.tr ?_ (by with_reducible assumption)) | (refine Upd.setCell ?_ (fun h => absurd h (by first | exact Nat.lt_irrefl _ | (simp only []; omega))) _))); done), by simp⟩
set_option maxRecDepth 100000 in
theorem isNaN_str (a : Bs) (w : World) : Calls Try.prog 30 #[.string ⟨a.toArray⟩] w (Rets fun r w' => r = .bool false ∧ Grw w w') := by
  go_enter Try.func30, Try.ntmps30
  go_wp2_with (first | (with_reducible refine wp_serial (by kernel_rfl) (by kernel_rfl) (by (repeat (first | (with_reducible apply NoBad.then) | (with_reducible apply NoBad.inBlock) | (with_reducible apply NoBad.jump) | (with_reducible exact NoBad.rets))); done) ?_) | fail)
  all_goals go_returns
  all_goals exact ⟨by simp, (by (repeat (first | (with_reducible exact Upd.refl _ _) | (with_reducible assumption) | (with_reducible apply Upd.drew) | (with_reducible apply Upd.alloc) | (refine Upd0.tr ?_ (by with_reducible assumption)) | (refine Upd.setCell ?_ (fun h => absurd h (by first | exact Nat.lt_irrefl _ | (simp only []; omega))) _))); done), by simp⟩
set_option maxRecDepth 100000 in
theorem cmpG_int (a b : Int) (w : World) : Calls Try.prog 25 #[.int .i64 a, .int .i64 b] w (Rets fun r w' => r = .int .i64 (cmpI a b) ∧ Grw w w') := by
  have hcase : (a < b ∧ cmpI a b = -1) ∨ (¬ a < b ∧ b < a ∧ cmpI a b = 1) ∨ (a = b ∧ cmpI a b = 0) := by unfold cmpI; split; simp_all; split; simp_all; omega
  rcases hcase with ⟨h1, hc⟩ | ⟨h1, h2, hc⟩ | ⟨rfl, hc⟩
  all_goals
    have hch := Lib.hid hc
    clear hc
    go_enter Try.func25, Try.ntmps25
    go_wp2_with (first
      | (go_at_call 29; (with_reducible refine (isNaN_int _ _).use ?_); rintro v w1 ⟨rfl, hu1, hd1⟩)
      | (with_reducible refine wp_serial (by kernel_rfl) (by kernel_rfl) (by (repeat (first | (with_reducible apply NoBad.then) | (with_reducible apply NoBad.inBlock) | (with_reducible apply NoBad.jump) | (with_reducible exact NoBad.rets))); done) ?_) | fail)
    all_goals go_returns
    all_goals exact ⟨by rw [hch.out]; rfl, (by (repeat (first | (with_reducible exact Upd.refl _ _) | (with_reducible assumption) | (with_reducible apply Upd.drew) | (with_reducible apply Upd.alloc) | (refine Upd0.tr ?_ (by with_reducible assumption)) | (refine Upd.setCell ?_ (fun h => absurd h (by first | exact Nat.lt_irrefl _ | (simp only []; omega))) _))); done), by (try simp only [drew_drawn, alloc_drawn] at *); omega⟩
set_option maxRecDepth 100000 in
theorem cmpG_str (a b : Bs) (w : World) : Calls Try.prog 26 #[.string ⟨a.toArray⟩, .string ⟨b.toArray⟩] w (Rets fun r w' => r = .int .i64 (cmpS a b) ∧ Grw w w') := by
  rcases cmpS_facts a b with ⟨h1, hc⟩ | ⟨rfl, hc, h1⟩ | ⟨h1, h2, hc⟩
  all_goals
    have hch := Lib.hid hc
    clear hc
    go_enter Try.func26, Try.ntmps26
    go_wp2_with (first
      | (go_at_call 30; (with_reducible refine (isNaN_str _ _).use ?_); rintro v w1 ⟨rfl, hu1, hd1⟩)
      | (with_reducible refine wp_serial (by kernel_rfl) (by kernel_rfl) (by (repeat (first | (with_reducible apply NoBad.then) | (with_reducible apply NoBad.inBlock) | (with_reducible apply NoBad.jump) | (with_reducible exact NoBad.rets))); done) ?_) | fail)
    all_goals go_returns
    all_goals exact ⟨by rw [hch.out]; rfl, (by (repeat (first | (with_reducible exact Upd.refl _ _) | (with_reducible assumption) | (with_reducible apply Upd.drew) | (with_reducible apply Upd.alloc) | (refine Upd0.tr ?_ (by with_reducible assumption)) | (refine Upd.setCell ?_ (fun h => absurd h (by first | exact Nat.lt_irrefl _ | (simp only []; omega))) _))); done), by (try simp only [drew_drawn, alloc_drawn] at *); omega⟩
/-- the first of two that is not zero -/
theorem or_w (g : Nat) (a b : Int) (w : World) (h : w.heap[g]? = some (.cells #[.int .i64 a, .int .i64 b] 3 (0, 0))) : Calls Try.prog 24 #[.slice (some ⟨g, 0, none⟩) 2 2] w (Rets fun r w' => r = .int .i64 (if a = 0 then b else a) ∧ Grw w w') := by
  have c0 : w.cell? ⟨g, 0, none⟩ = some (.int .i64 a) := by rw [blk_cell h]; rfl
  have c1 : w.cell? ⟨g, 1, none⟩ = some (.int .i64 b) := by rw [blk_cell h]; rfl
  clear h
  by_cases ha : a = 0
  · subst ha
    by_cases hb : b = 0
    · subst hb
      go_enter Try.func24, Try.ntmps24
      go_wp2_with (first | (with_reducible refine wp_serial (by kernel_rfl) (by kernel_rfl) (by (repeat (first | (with_reducible apply NoBad.then) | (with_reducible apply NoBad.inBlock) | (with_reducible apply NoBad.jump) | (with_reducible exact NoBad.rets))); done) ?_) | fail)
      go_loopw [5, 8] (fun _ ii wr => ∃ k : Nat, k ≤ 2 ∧ ii = .int .i64 k ∧ w = wr) (fun _ ii _ => 2 - (intOf ii).toNat)
      case atStart => exact ⟨0, Nat.zero_le _, rfl, rfl⟩
      case round =>
        obtain ⟨k, hk, rfl, rfl⟩ := hrel
        have hk3 : k = 0 ∨ k = 1 ∨ k = 2 := by omega
        rcases hk3 with rfl | rfl | rfl
        · go_wp2_with (first | (with_reducible refine wp_serial (by kernel_rfl) (by kernel_rfl) (by (repeat (first | (with_reducible apply NoBad.then) | (with_reducible apply NoBad.inBlock) | (with_reducible apply NoBad.jump) | (with_reducible exact NoBad.rets))); done) ?_) | fail)
          go_roundw
          case rel => exact ⟨1, by omega, rfl, by first | rfl | trivial⟩
          case measure => simp [intOf]
        · go_wp2_with (first | (with_reducible refine wp_serial (by kernel_rfl) (by kernel_rfl) (by (repeat (first | (with_reducible apply NoBad.then) | (with_reducible apply NoBad.inBlock) | (with_reducible apply NoBad.jump) | (with_reducible exact NoBad.rets))); done) ?_) | fail)
          go_roundw
          case rel => exact ⟨2, by omega, rfl, by first | rfl | trivial⟩
          case measure => simp [intOf]
        · go_wp2_with (first | (with_reducible refine wp_serial (by kernel_rfl) (by kernel_rfl) (by (repeat (first | (with_reducible apply NoBad.then) | (with_reducible apply NoBad.inBlock) | (with_reducible apply NoBad.jump) | (with_reducible exact NoBad.rets))); done) ?_) | fail)
          all_goals go_returns
          all_goals exact ⟨rfl, Upd.refl _ _, Nat.le_refl _⟩
    · have hb' : (b != 0) = true := by simpa using hb
      go_enter Try.func24, Try.ntmps24
      go_wp2_with (first | (with_reducible refine wp_serial (by kernel_rfl) (by kernel_rfl) (by (repeat (first | (with_reducible apply NoBad.then) | (with_reducible apply NoBad.inBlock) | (with_reducible apply NoBad.jump) | (with_reducible exact NoBad.rets))); done) ?_) | fail)
      go_loopw [5, 8] (fun _ ii wr => ∃ k : Nat, k ≤ 1 ∧ ii = .int .i64 k ∧ w = wr) (fun _ ii _ => 2 - (intOf ii).toNat)
      case atStart => exact ⟨0, Nat.zero_le _, rfl, rfl⟩
      case round =>
        obtain ⟨k, hk, rfl, rfl⟩ := hrel
        have hk3 : k = 0 ∨ k = 1 := by omega
        rcases hk3 with rfl | rfl
        · go_wp2_with (first | (with_reducible refine wp_serial (by kernel_rfl) (by kernel_rfl) (by (repeat (first | (with_reducible apply NoBad.then) | (with_reducible apply NoBad.inBlock) | (with_reducible apply NoBad.jump) | (with_reducible exact NoBad.rets))); done) ?_) | fail)
          go_roundw
          case rel => exact ⟨1, by omega, rfl, by first | rfl | trivial⟩
          case measure => simp [intOf]
        · go_wp2_with (first | (with_reducible refine wp_serial (by kernel_rfl) (by kernel_rfl) (by (repeat (first | (with_reducible apply NoBad.then) | (with_reducible apply NoBad.inBlock) | (with_reducible apply NoBad.jump) | (with_reducible exact NoBad.rets))); done) ?_) | fail)
          all_goals go_returns
          all_goals exact ⟨rfl, Upd.refl _ _, Nat.le_refl _⟩
  · have ha' : (a != 0) = true := by simpa using ha
    rw [if_neg ha]
    go_enter Try.func24, Try.ntmps24
    go_wp2_with (first | (with_reducible refine wp_serial (by kernel_rfl) (by kernel_rfl) (by (repeat (first | (with_reducible apply NoBad.then) | (with_reducible apply NoBad.inBlock) | (with_reducible apply NoBad.jump) | (with_reducible exact NoBad.rets))); done) ?_) | fail)
    go_loopw [5, 8] (fun _ ii wr => ii = .int .i64 0 ∧ w = wr) (fun _ ii _ => 0)
    case atStart => exact ⟨rfl, rfl⟩
    case round =>
      obtain ⟨rfl, rfl⟩ := hrel
      go_wp2_with (first | (with_reducible refine wp_serial (by kernel_rfl) (by kernel_rfl) (by (repeat (first | (with_reducible apply NoBad.then) | (with_reducible apply NoBad.inBlock) | (with_reducible apply NoBad.jump) | (with_reducible exact NoBad.rets))); done) ?_) | fail)
      all_goals go_returns
      all_goals exact ⟨rfl, Upd.refl _ _, Nat.le_refl _⟩
set_option maxRecDepth 100000 in
set_option maxHeartbeats 2000000 in
/-- the closure: names by their times, then by themselves -/
theorem byTime_w (bx t bm : Nat) (room : Int) (L : List Tm) (x y : Bs) (hx : x.length ≤ maxLen) (hy : y.length ≤ maxLen) (w : World) (hbx : w.heap[bx]? = some (.cells #[.pointer (some ⟨t, 0, none⟩)] 23 (0, 0))) (hq : w.heap[t]? = some (.cells #[.int .i64 room, .map (some bm)] 51 (0, 0))) (ho : OwnsT w bm L) (hn : NeT L) :
    Calls Try.prog 23 #[.string ⟨x.toArray⟩, .string ⟨y.toArray⟩, .pointer (some ⟨bx, 0, none⟩)] w (Rets fun r w' => r = .int .i64 (cfT L x y) ∧ Grw w w') := by
  have b0 : w.cell? ⟨bx, 0, none⟩ = some (.pointer (some ⟨t, 0, none⟩)) := by rw [blk_cell hbx]; rfl
  have c1 : w.cell? ⟨t, 1, none⟩ = some (.map (some bm)) := by rw [blk_cell hq]; rfl
  have hoh := Lib.hid ho
  have hnh := Lib.hid hn
  have hbl := blk_lt hbx
  have htl := blk_lt hq
  obtain ⟨p, hp⟩ : ∃ p, atT L x = p := ⟨_, rfl⟩
  obtain ⟨q, hqq⟩ : ∃ q, atT L y = q := ⟨_, rfl⟩
  have hph := Lib.hid hp
  have hqh := Lib.hid hqq
  obtain ⟨c, hc⟩ : ∃ c, cmpI p q = c := ⟨_, rfl⟩
  obtain ⟨d, hd⟩ : ∃ d, cmpS x y = d := ⟨_, rfl⟩
  have hch := Lib.hid hc
  have hdh := Lib.hid hd
  rw [show cfT L x y = if c = 0 then d else c from by simp only [cfT, cmp2]; rw [hp, hqq, hc, hd]]
  clear hbx hq ho hn hp hqq hc hd
  go_enter Try.func23, Try.ntmps23
  go_wp2_with (first
    | (at_lookup; refine wpList_lookT _ rfl (.tmp 9) (.tmp 10) rfl bm L rfl (OwnsT.to hoh.out rfl) hnh.out x rfl hx p hph.out ?_)
    | (at_lookup; refine wpList_lookT _ rfl (.tmp 15) (.tmp 16) rfl bm L rfl (OwnsT.to hoh.out rfl) hnh.out y rfl hy q hqh.out ?_)
    | (go_at_call 25; (with_reducible refine (cmpG_int p q _).use ?_); rintro v w1 ⟨rfl, hu1, hd1⟩; rw [hch.out])
    | (go_at_call 26; (with_reducible refine (cmpG_str x y _).use ?_); rintro v w2 ⟨rfl, hu2, hd2⟩; rw [hdh.out])
    | (go_at_call 24; (with_reducible refine (or_w w2.heap.size c d _ (alloc_last _ _ _ (by simp))).use ?_); rintro v w3 ⟨rfl, hu3, hd3⟩)
    | (with_reducible refine wp_serial (by kernel_rfl) (by kernel_rfl) (by (repeat (first | (with_reducible apply NoBad.then) | (with_reducible apply NoBad.inBlock) | (with_reducible apply NoBad.jump) | (with_reducible exact NoBad.rets))); done) ?_)
    | fail)
  all_goals go_returns
  all_goals exact ⟨rfl, (by (repeat (first | (with_reducible exact Upd.refl _ _) | (with_reducible assumption) | (with_reducible apply Upd.drew) | (with_reducible apply Upd.alloc) | (refine Upd0.tr ?_ (by with_reducible assumption)) | (refine Upd.setCell ?_ (fun h => absurd h (by first | exact Nat.lt_irrefl _ | (simp only []; omega))) _))); done), by (try simp only [drew_drawn, alloc_drawn] at *); omega⟩
end Go.Proofs.Ytkkncnffkmopbaa
