/-
  The walk of NetScripts: two networks do the same.
-/
import Derived.Test.YtfhaehkofeiobaaTwn
import Derived.Test.YtfhaehkofeiobaaNetDoubles
import Derived.Handy
import Derived.Deep.CutRange
import Derived.Deep.CutBlock
namespace Go.Proofs.Ytfhaehkofeiobaa
open Go.RowKit
set_option linter.unusedSimpArgs false
set_option linter.unusedVariables false
structure OpV where
  dO : Int
  p : Pk
  i : Int
/-- a slice of operations that came in -/
def OpR (w : World) (ao : Option Addr) (xs : List OpV) : Prop := xs = [] ∨ ∃ g o, ao = some ⟨g, o, none⟩ ∧ g < w.heap.size ∧ ∀ (i : Nat) x, xs[i]? = some x → w.cell? ⟨g, o + i * 5, none⟩ = some (.int .i64 x.dO) ∧ w.cell? ⟨g, o + i * 5 + 1, none⟩ = some (.int .i64 x.p.fr) ∧ w.cell? ⟨g, o + i * 5 + 2, none⟩ = some (.int .i64 x.p.to) ∧ w.cell? ⟨g, o + i * 5 + 3, none⟩ = some (.string x.p.by_) ∧ w.cell? ⟨g, o + i * 5 + 4, none⟩ = some (.int .i64 x.i)
theorem OpR.some {w : World} {ao : Option Addr} {xs : List OpV} (h : OpR w ao xs) {k : Nat} {x : OpV} (hk : xs[k]? = some x) : ∃ g o, ao = some ⟨g, o, none⟩ ∧ g < w.heap.size ∧ w.cell? ⟨g, o + k * 5, none⟩ = some (.int .i64 x.dO) ∧ w.cell? ⟨g, o + k * 5 + 1, none⟩ = some (.int .i64 x.p.fr) ∧ w.cell? ⟨g, o + k * 5 + 2, none⟩ = some (.int .i64 x.p.to) ∧ w.cell? ⟨g, o + k * 5 + 3, none⟩ = some (.string x.p.by_) ∧ w.cell? ⟨g, o + k * 5 + 4, none⟩ = some (.int .i64 x.i) := by
  rcases h with rfl | ⟨g, o, h1, h2, h3⟩
  · simp at hk
  · exact ⟨g, o, h1, h2, h3 k x hk⟩
theorem alloc_last_d (w : World) (o : Obj) (n : Nat) (h : n = w.heap.size) : (w.alloc o).drew.heap[n]? = some o := alloc_last w o n h
theorem Tw.tail {w0 w : World} {p : Nat × Obj} {os : List (Nat × Obj)} {b b' : Nat} {nd rm : Int} {l l' : List Pk} (h : Tw w0 w (p :: os) b b' nd rm l l') : Tw w0 w os b b' nd rm l l' :=
  ⟨h.1.new (Upd.refl _ _) _ (fun c hc => .inl (List.mem_cons_of_mem _ hc)), fun q hq => h.2 q (List.mem_cons_of_mem _ hq)⟩
theorem sendL_len (nd rm : Int) (l : List Pk) (p : Pk) : (sendL nd rm l p).length ≤ l.length + 1 := by
  unfold sendL; split
  · split <;> simp
  · omega
theorem takeL_len (l : List Pk) (i : Int) : (takeL l i).length ≤ l.length := by
  unfold takeL; split
  · exact List.length_eraseIdx_le l i.toNat
  · exact Nat.le_refl _
theorem doubleL_len (nd rm : Int) (l : List Pk) (i : Int) : (doubleL nd rm l i).length ≤ l.length + 1 := by
  unfold doubleL; split
  · exact sendL_len _ _ _ _
  · omega
theorem keepL_len (n : Int) (l : List Pk) : (keepL n l).length ≤ l.length := List.length_filter_le _ _
/-- the reference's list and one of its packets, read by the law itself -/
theorem Tw.cellsL {w0 w : World} {os : List (Nat × Obj)} {b b' : Nat} {nd rm : Int} {l l' : List Pk} (h : Tw w0 w os b b' nd rm l l') {k : Nat} {p : Pk} (hk : l'[k]? = some p) : ∃ g cap, w.cell? ⟨b', 2, none⟩ = some (.slice (some ⟨g, 0, none⟩) l'.length cap) ∧ g < w.heap.size ∧ w.cell? ⟨g, k * 3, none⟩ = some (.int .i64 p.fr) ∧ w.cell? ⟨g, k * 3 + 1, none⟩ = some (.int .i64 p.to) ∧ w.cell? ⟨g, k * 3 + 2, none⟩ = some (.string p.by_) := by
  obtain ⟨v, h⟩ := h.two
  obtain ⟨ao, cap, rfl⟩ := ownsRow_slice h.1.row
  have hl := (List.getElem?_eq_some_iff.1 hk).1
  obtain ⟨g, rfl⟩ := ownsRow_some h.1.row (by omega)
  obtain ⟨c0, c1, c2⟩ := pk_cells h.1.row hk
  exact ⟨g, cap, by rw [blk_cell h.1.blk]; rfl, ownsRow_lt h.1.row rfl, c0, c1, c2⟩
set_option maxRecDepth 100000 in
set_option maxHeartbeats 8000000 in
theorem netScripts_walk (nd rm : Int) (ao : Option Addr) (cap : Nat) (xs : List OpV) (w : World) (hS : OpR w ao xs) (hlen : xs.length ≤ maxLen) :
    Calls Try.prog 3 #[.int .i64 nd, .int .i64 rm, .slice ao xs.length cap] w (Rets fun r w' => r = .bool true ∧ Upd0 w w') := by
  have hSh := Lib.hid hS
  clear hS
  simp only [maxLen] at hlen
  by_cases hok : 1 ≤ nd ∧ nd ≤ 100 ∧ 1 ≤ rm ∧ rm ≤ 1000
  case neg =>
    have hbad : nd < 1 ∨ (1 ≤ nd ∧ 100 < nd) ∨ (1 ≤ nd ∧ nd ≤ 100 ∧ rm < 1) ∨ (1 ≤ nd ∧ nd ≤ 100 ∧ 1 ≤ rm ∧ 1000 < rm) := by omega
    have hokh := Lib.hid hok
    clear hok
    rcases hbad with hb | ⟨hb, hb1⟩ | ⟨hb, hb1, hb2⟩ | ⟨hb, hb1, hb2, hb3⟩
    all_goals
      go_enter Try.func3, Try.ntmps3
      go_wp2_with (first
        | (go_at_call 8; refine (new_arg nd rm _ hokh.out).use ?_; rintro v w1 ⟨rfl, hu1⟩)
        | (go_at_call 9; refine (live_any _).use ?_; rintro v w2 ⟨rfl, hu2⟩)
        | (with_reducible refine wp_serial (by kernel_rfl) (by kernel_rfl) (by (repeat (first | (with_reducible apply NoBad.then) | (with_reducible apply NoBad.inBlock) | (with_reducible exact NoBad.rets))); done) ?_) | fail)
      all_goals go_returns
      all_goals exact ⟨rfl, (by (repeat (first | (with_reducible exact Upd.refl _ _) | (with_reducible assumption) | (with_reducible apply Upd.drew) | (with_reducible apply Upd.alloc) | (refine Upd0.tr ?_ (by with_reducible assumption)) | (refine Upd.setCell ?_ (fun h => absurd h (by first | exact Nat.lt_irrefl _ | (simp only []; omega))) _))); done)⟩
  obtain ⟨hk1, hk2, hk3, hk4⟩ := hok
  go_enter Try.func3, Try.ntmps3
  go_wp2_with (first
    | (go_at_call 8; refine (newA (w0 := w) nd rm (Upd.refl _ _) ⟨hk1, hk2, hk3, hk4⟩).use ?_; rintro v w1 ⟨b, rfl, hb1, hn1, hu1⟩; have h1 := Lib.hid hn1; clear hn1)
    | (with_reducible refine wp_serial (by kernel_rfl) (by kernel_rfl) (by (repeat (first | (with_reducible apply NoBad.then) | (with_reducible apply NoBad.inBlock) | (with_reducible exact NoBad.rets))); done) ?_) | fail)
  go_loopw [10] (fun j wr => ∃ (k : Nat) (S : List Pk), k ≤ xs.length ∧ k ≤ 80 ∧ j = .int .i64 k ∧ S.length ≤ k ∧ Hid (Tw w wr [] b w1.heap.size nd rm S S)) (fun j _ => xs.length - (intOf j).toNat)
  case atStart => exact ⟨0, [], Nat.zero_le _, by omega, rfl, Nat.le_refl _, Lib.hid (Tw.start h1.out (by (repeat (first | (with_reducible exact Upd.refl _ _) | (with_reducible assumption) | (with_reducible apply Upd.drew) | (with_reducible apply Upd.alloc) | (refine Upd0.tr ?_ (by with_reducible assumption)) | (refine Upd.setCell ?_ (fun h => absurd h (by first | exact Nat.lt_irrefl _ | (simp only []; omega))) _))); done) (Nat.le_refl _) (alloc_last _ _ w1.heap.size rfl))⟩
  case round =>
    obtain ⟨k, S, hk, hk80, rfl, hSl, hn⟩ := hrel
    by_cases hlt : k < xs.length ∧ k < 80
    · obtain ⟨hltx, hlt80⟩ := hlt
      obtain ⟨x, hx⟩ : ∃ x, xs[k]? = some x := ⟨xs[k], by simp [hltx]⟩
      obtain ⟨g, o, rfl, hg, e0, e1, e2, e3, e4⟩ := hSh.out.some hx
      have hup := hn.out.upd
      have d0 := hup.cell (fun h => h) e0
      have d1 := hup.cell (fun h => h) e1
      have d2 := hup.cell (fun h => h) e2
      have d3 := hup.cell (fun h => h) e3
      have d4 := hup.cell (fun h => h) e4
      have hgw : g < wr.heap.size := Nat.lt_of_lt_of_le hg hup.size
      have hlb := hn.out.lt
      clear hx e0 e1 e2 e3 e4
      rcases Nat.lt_or_ge 1000 x.p.by_.size with hz | hz
      · go_wp2_with (first
          | (go_at_call 9; refine (live_any _).use ?_; rintro v w2 ⟨rfl, hu2⟩)
          | (with_reducible refine wp_serial (by kernel_rfl) (by kernel_rfl) (by (repeat (first | (with_reducible apply NoBad.then) | (with_reducible apply NoBad.inBlock) | (with_reducible exact NoBad.rets))); done) ?_) | fail)
        all_goals go_returns
        all_goals exact ⟨rfl, (by (repeat (first | (with_reducible exact Upd.refl _ _) | (with_reducible assumption) | (with_reducible apply Upd.drew) | (with_reducible apply Upd.alloc) | (refine Upd0.tr ?_ (by with_reducible assumption)) | (refine Upd.setCell ?_ (fun h => absurd h (by first | exact Nat.lt_irrefl _ | (simp only []; omega))) _))); done)⟩
      · have hcs : x.dO = 0 ∨ x.dO = 1 ∨ x.dO = 2 ∨ x.dO = 3 ∨ (¬ x.dO = 0 ∧ ¬ x.dO = 1 ∧ ¬ x.dO = 2 ∧ ¬ x.dO = 3) := by omega
        go_upto_block 2 with fail
        go_cut [12, 13, 14, 15, 16] from 63 to 186 (fun ok y1 y2 y3 y4 wx => ok = .bool true ∧ ∃ (S2 : List Pk) (t : TypeId) (d : Value), S2.length ≤ k + 1 ∧ Hid (Tw w wx [(wr.heap.size, .cells #[d, .int .i64 x.p.fr, .int .i64 x.p.to, .string x.p.by_, .int .i64 x.i] t (0, 0))] b w1.heap.size nd rm S2 S2))
        case first =>
          rcases hcs with hd | hd | hd | hd | ⟨hd0, hd1, hd2, hd3⟩
          · obtain ⟨S2, hS2⟩ : ∃ S2, sendL nd rm S x.p = S2 := ⟨_, rfl⟩
            obtain ⟨cc, hcc⟩ : ∃ cc, sendC nd rm S x.p = cc := ⟨_, rfl⟩
            have hl2 : S2.length ≤ k + 1 := by have := sendL_len nd rm S x.p; rw [hS2] at this; omega
            have s2 := Lib.hid hS2
            clear hS2
            have c2 := Lib.hid hcc; clear hcc
            have tok1 := True.intro
            go_wp2_with (first
                | (go_at_call 10; have _t := tok1; refine (sendT x.p (hn.out.add (by (repeat (first | (with_reducible exact Upd.refl _ _) | (with_reducible assumption) | (with_reducible apply Upd.drew) | (with_reducible apply Upd.alloc) | (refine Upd0.tr ?_ (by with_reducible assumption)) | (refine Upd.setCell ?_ (fun h => absurd h (by first | exact Nat.lt_irrefl _ | (simp only []; omega))) _))); done) (alloc_last_d _ _ wr.heap.size rfl) (Nat.le_refl _)) (by omega) (by omega) (by omega)).use ?_; rintro v w2 ⟨rfl, hT⟩; rw [c2.out]; rw [s2.out] at hT; obtain ⟨a0, a1, a2, a3, a4⟩ := five (hT.2 _ (List.mem_cons_self ..)); have h2 := Lib.hid hT; have tok2 := True.intro; clear hT tok1 _t)
                | (go_at_call 11; have _t := tok2; refine (rsendT x.p (h2.out.up (by (repeat (first | (with_reducible exact Upd.refl _ _) | (with_reducible assumption) | (with_reducible apply Upd.drew) | (with_reducible apply Upd.alloc) | (refine Upd0.tr ?_ (by with_reducible assumption)) | (refine Upd.setCell ?_ (fun h => absurd h (by first | exact Nat.lt_irrefl _ | (simp only []; omega))) _))); done)) (by omega) (by omega) (by omega)).use ?_; rintro v w3 ⟨rfl, hT⟩; rw [c2.out]; rw [s2.out] at hT; obtain ⟨a0, a1, a2, a3, a4⟩ := five (hT.2 _ (List.mem_cons_self ..)); have h3 := Lib.hid hT; have tokL := True.intro; clear hT tok2 _t)
                | (have _t := tok1; (with_reducible refine wp_serial2 11 14 [0, 1, 2, 3, 4, 5, 6, 7, 8, 9, 10, 13, 14, 11, 12, 15, 16, 17] [_, _, _, _, _, _, _, _, _, _, _, _, _, _, _, _, _, _] (by kernel_rfl) (by decide +kernel) rfl (by (repeat (first | (with_reducible apply NoBad.then) | (with_reducible apply NoBad.inBlock) | (with_reducible exact NoBad.rets))); done) ?_ ?_))
                | (with_reducible refine wp_serial (by kernel_rfl) (by kernel_rfl) (by (repeat (first | (with_reducible apply NoBad.then) | (with_reducible apply NoBad.inBlock) | (with_reducible exact NoBad.rets))); done) ?_)
                | fail)
            all_goals go_meet
            all_goals exact ⟨rfl, S2, _, _, hl2, Lib.hid (h3.out.up (by (repeat (first | (with_reducible exact Upd.refl _ _) | (with_reducible assumption) | (with_reducible apply Upd.drew) | (with_reducible apply Upd.alloc) | (refine Upd0.tr ?_ (by with_reducible assumption)) | (refine Upd.setCell ?_ (fun h => absurd h (by first | exact Nat.lt_irrefl _ | (simp only []; omega))) _))); done))⟩
          · obtain ⟨S2, hS2⟩ : ∃ S2, takeL S x.i = S2 := ⟨_, rfl⟩
            obtain ⟨r, hr1⟩ : ∃ r, lookP S x.i = r := ⟨_, rfl⟩
            obtain ⟨br, hr2⟩ : ∃ br, lookB S x.i = br := ⟨_, rfl⟩
            have r1 := Lib.hid hr1; have r2 := Lib.hid hr2
            have hl2 : S2.length ≤ k + 1 := by have := takeL_len S x.i; rw [hS2] at this; omega
            have s2 := Lib.hid hS2
            clear hS2
            clear hr1 hr2
            have tok1 := True.intro
            go_wp2_with (first
                | (go_at_call 12; have _t := tok1; refine (takeT (hn.out.add (by (repeat (first | (with_reducible exact Upd.refl _ _) | (with_reducible assumption) | (with_reducible apply Upd.drew) | (with_reducible apply Upd.alloc) | (refine Upd0.tr ?_ (by with_reducible assumption)) | (refine Upd.setCell ?_ (fun h => absurd h (by first | exact Nat.lt_irrefl _ | (simp only []; omega))) _))); done) (alloc_last _ _ wr.heap.size rfl) (Nat.le_refl _)) (by omega) x.i).use ?_; rintro v w2 ⟨rfl, hT⟩; rw [r1.out, r2.out]; rw [s2.out] at hT; obtain ⟨a0, a1, a2, a3, a4⟩ := five (hT.2 _ (List.mem_cons_self ..)); have hlt2 : wr.heap.size < w2.heap.size := blk_lt (hT.2 _ (List.mem_cons_self ..)); have n2 : ¬ wr.heap.size = w2.heap.size := (by omega); have n2' : ¬ w2.heap.size = wr.heap.size := (by omega); have h2 := Lib.hid hT; have tok2 := True.intro; clear hT tok1 _t)
                | (go_at_call 13; have _t := tok2; refine (rtakeT (h2.out.add (by (repeat (first | (with_reducible exact Upd.refl _ _) | (with_reducible assumption) | (with_reducible apply Upd.drew) | (with_reducible apply Upd.alloc) | (refine Upd0.tr ?_ (by with_reducible assumption)) | (refine Upd.setCell ?_ (fun h => absurd h (by first | exact Nat.lt_irrefl _ | (simp only []; omega))) _))); done) (alloc_last _ _ w2.heap.size rfl) (Nat.le_refl _)) (by omega) x.i).use ?_; rintro v w3 ⟨rfl, hT⟩; rw [r1.out, r2.out]; rw [s2.out] at hT; obtain ⟨a0, a1, a2, a3, a4⟩ := five (hT.2 _ (List.mem_cons_of_mem _ (List.mem_cons_self ..))); obtain ⟨b0, b1, b2⟩ := three (hT.2 _ (List.mem_cons_self ..)); have hlt3 : w2.heap.size < w3.heap.size := blk_lt (hT.2 _ (List.mem_cons_self ..)); have n3 : ¬ w2.heap.size = w3.heap.size := (by omega); have n3' : ¬ w3.heap.size = w2.heap.size := (by omega); have m3 : ¬ wr.heap.size = w3.heap.size := (by omega); have m3' : ¬ w3.heap.size = wr.heap.size := (by omega); have h3 := Lib.hid hT; have tok3 := True.intro; clear hT tok2 _t)
                | (go_at_call 14; have _t := tok3; refine (same_refl _ r).use ?_; rintro v w3b ⟨rfl, hu3⟩; have h3b := Lib.hid (h3.out.up (Upd0.tr (show Upd0 _ _ from (by (repeat (first | (with_reducible exact Upd.refl _ _) | (with_reducible assumption) | (with_reducible apply Upd.drew) | (with_reducible apply Upd.alloc) | (refine Upd0.tr ?_ (by with_reducible assumption)) | (refine Upd.setCell ?_ (fun h => absurd h (by first | exact Nat.lt_irrefl _ | (simp only []; omega))) _))); done)) hu3)); obtain ⟨a0, a1, a2, a3, a4⟩ := five (h3b.out.2 _ (List.mem_cons_of_mem _ (List.mem_cons_self ..))); have tokL := True.intro; clear tok3 _t)
                | (with_reducible refine wp_serial (by kernel_rfl) (by kernel_rfl) (by (repeat (first | (with_reducible apply NoBad.then) | (with_reducible apply NoBad.inBlock) | (with_reducible exact NoBad.rets))); done) ?_)
                | fail)
            all_goals go_meet
            all_goals exact ⟨rfl, S2, _, _, hl2, Lib.hid (h3b.out.tail.up (by (repeat (first | (with_reducible exact Upd.refl _ _) | (with_reducible assumption) | (with_reducible apply Upd.drew) | (with_reducible apply Upd.alloc) | (refine Upd0.tr ?_ (by with_reducible assumption)) | (refine Upd.setCell ?_ (fun h => absurd h (by first | exact Nat.lt_irrefl _ | (simp only []; omega))) _))); done))⟩
          · obtain ⟨S2, hS2⟩ : ∃ S2, doubleL nd rm S x.i = S2 := ⟨_, rfl⟩
            obtain ⟨cc, hcc⟩ : ∃ cc, doubleC nd rm S x.i = cc := ⟨_, rfl⟩
            have hl2 : S2.length ≤ k + 1 := by have := doubleL_len nd rm S x.i; rw [hS2] at this; omega
            have s2 := Lib.hid hS2
            clear hS2
            have c2 := Lib.hid hcc; clear hcc
            have tok1 := True.intro
            go_wp2_with (first
                | (go_at_call 15; have _t := tok1; refine (doubleT (hn.out.add (by (repeat (first | (with_reducible exact Upd.refl _ _) | (with_reducible assumption) | (with_reducible apply Upd.drew) | (with_reducible apply Upd.alloc) | (refine Upd0.tr ?_ (by with_reducible assumption)) | (refine Upd.setCell ?_ (fun h => absurd h (by first | exact Nat.lt_irrefl _ | (simp only []; omega))) _))); done) (alloc_last_d _ _ wr.heap.size rfl) (Nat.le_refl _)) (by omega) (by omega) (by omega) (by omega) x.i).use ?_; rintro v w2 ⟨rfl, hT⟩; rw [c2.out]; rw [s2.out] at hT; obtain ⟨a0, a1, a2, a3, a4⟩ := five (hT.2 _ (List.mem_cons_self ..)); have h2 := Lib.hid hT; have tok2 := True.intro; clear hT tok1 _t)
                | (go_at_call 16; have _t := tok2; refine (rdoubleT (h2.out.up (by (repeat (first | (with_reducible exact Upd.refl _ _) | (with_reducible assumption) | (with_reducible apply Upd.drew) | (with_reducible apply Upd.alloc) | (refine Upd0.tr ?_ (by with_reducible assumption)) | (refine Upd.setCell ?_ (fun h => absurd h (by first | exact Nat.lt_irrefl _ | (simp only []; omega))) _))); done)) (by omega) (by omega) (by omega) (by omega) x.i).use ?_; rintro v w3 ⟨rfl, hT⟩; rw [c2.out]; rw [s2.out] at hT; obtain ⟨a0, a1, a2, a3, a4⟩ := five (hT.2 _ (List.mem_cons_self ..)); have h3 := Lib.hid hT; have tokL := True.intro; clear hT tok2 _t)
                | (have _t := tok1; (with_reducible refine wp_serial2 3 6 [0, 1, 2, 5, 6, 3, 4, 7, 8, 9] [_, _, _, _, _, _, _, _, _, _] (by kernel_rfl) (by decide +kernel) rfl (by (repeat (first | (with_reducible apply NoBad.then) | (with_reducible apply NoBad.inBlock) | (with_reducible exact NoBad.rets))); done) ?_ ?_))
                | (with_reducible refine wp_serial (by kernel_rfl) (by kernel_rfl) (by (repeat (first | (with_reducible apply NoBad.then) | (with_reducible apply NoBad.inBlock) | (with_reducible exact NoBad.rets))); done) ?_)
                | fail)
            all_goals go_meet
            all_goals exact ⟨rfl, S2, _, _, hl2, Lib.hid (h3.out.up (by (repeat (first | (with_reducible exact Upd.refl _ _) | (with_reducible assumption) | (with_reducible apply Upd.drew) | (with_reducible apply Upd.alloc) | (refine Upd0.tr ?_ (by with_reducible assumption)) | (refine Upd.setCell ?_ (fun h => absurd h (by first | exact Nat.lt_irrefl _ | (simp only []; omega))) _))); done))⟩
          · obtain ⟨S2, hS2⟩ : ∃ S2, keepL x.i S = S2 := ⟨_, rfl⟩
            obtain ⟨cc, hcc⟩ : ∃ cc, ((S.length : Int) - (keepL x.i S).length) = cc := ⟨_, rfl⟩
            have hl2 : S2.length ≤ k + 1 := by have := keepL_len x.i S; rw [hS2] at this; omega
            have s2 := Lib.hid hS2
            clear hS2
            have c2 := Lib.hid hcc; clear hcc
            have tok1 := True.intro
            go_wp2_with (first
                | (go_at_call 17; have _t := tok1; refine (clearT (hn.out.add (by (repeat (first | (with_reducible exact Upd.refl _ _) | (with_reducible assumption) | (with_reducible apply Upd.drew) | (with_reducible apply Upd.alloc) | (refine Upd0.tr ?_ (by with_reducible assumption)) | (refine Upd.setCell ?_ (fun h => absurd h (by first | exact Nat.lt_irrefl _ | (simp only []; omega))) _))); done) (alloc_last_d _ _ wr.heap.size rfl) (Nat.le_refl _)) (by omega) x.i).use ?_; rintro v w2 ⟨rfl, hT⟩; rw [c2.out]; rw [s2.out] at hT; obtain ⟨a0, a1, a2, a3, a4⟩ := five (hT.2 _ (List.mem_cons_self ..)); have h2 := Lib.hid hT; have tok2 := True.intro; clear hT tok1 _t)
                | (go_at_call 18; have _t := tok2; refine (rclearT (h2.out.up (by (repeat (first | (with_reducible exact Upd.refl _ _) | (with_reducible assumption) | (with_reducible apply Upd.drew) | (with_reducible apply Upd.alloc) | (refine Upd0.tr ?_ (by with_reducible assumption)) | (refine Upd.setCell ?_ (fun h => absurd h (by first | exact Nat.lt_irrefl _ | (simp only []; omega))) _))); done)) (by omega) x.i).use ?_; rintro v w3 ⟨rfl, hT⟩; rw [c2.out]; rw [s2.out] at hT; obtain ⟨a0, a1, a2, a3, a4⟩ := five (hT.2 _ (List.mem_cons_self ..)); have h3 := Lib.hid hT; have tokL := True.intro; clear hT tok2 _t)
                | (have _t := tok1; (with_reducible refine wp_serial2 3 6 [0, 1, 2, 5, 6, 3, 4, 7, 8, 9] [_, _, _, _, _, _, _, _, _, _] (by kernel_rfl) (by decide +kernel) rfl (by (repeat (first | (with_reducible apply NoBad.then) | (with_reducible apply NoBad.inBlock) | (with_reducible exact NoBad.rets))); done) ?_ ?_))
                | (with_reducible refine wp_serial (by kernel_rfl) (by kernel_rfl) (by (repeat (first | (with_reducible apply NoBad.then) | (with_reducible apply NoBad.inBlock) | (with_reducible exact NoBad.rets))); done) ?_)
                | fail)
            all_goals go_meet
            all_goals exact ⟨rfl, S2, _, _, hl2, Lib.hid (h3.out.up (by (repeat (first | (with_reducible exact Upd.refl _ _) | (with_reducible assumption) | (with_reducible apply Upd.drew) | (with_reducible apply Upd.alloc) | (refine Upd0.tr ?_ (by with_reducible assumption)) | (refine Upd.setCell ?_ (fun h => absurd h (by first | exact Nat.lt_irrefl _ | (simp only []; omega))) _))); done))⟩
          · obtain ⟨S2, hS2⟩ : ∃ S2, S = S2 := ⟨_, rfl⟩
            have hl2 : S2.length ≤ k + 1 := by rw [← hS2]; omega
            subst hS2
            go_wp2_with (first
                | (with_reducible refine wp_serial (by kernel_rfl) (by kernel_rfl) (by (repeat (first | (with_reducible apply NoBad.then) | (with_reducible apply NoBad.inBlock) | (with_reducible exact NoBad.rets))); done) ?_)
                | fail)
            all_goals go_meet
            all_goals exact ⟨rfl, S, _, _, hl2, Lib.hid (hn.out.add (by (repeat (first | (with_reducible exact Upd.refl _ _) | (with_reducible assumption) | (with_reducible apply Upd.drew) | (with_reducible apply Upd.alloc) | (refine Upd0.tr ?_ (by with_reducible assumption)) | (refine Upd.setCell ?_ (fun h => absurd h (by first | exact Nat.lt_irrefl _ | (simp only []; omega))) _))); done) (alloc_last _ _ wr.heap.size rfl) (Nat.le_refl _))⟩
        case rest =>
          obtain ⟨rfl, S2, tt, dd, hl2, hc⟩ := hcut
          obtain ⟨q, hq1⟩ : ∃ q, lookP S2 x.i = q := ⟨_, rfl⟩
          obtain ⟨bq, hq2⟩ : ∃ bq, lookB S2 x.i = bq := ⟨_, rfl⟩
          have q1 := Lib.hid hq1; have q2 := Lib.hid hq2; clear hq1 hq2
          obtain ⟨a0, a1, a2, a3, a4⟩ := five (hc.out.2 _ (List.mem_cons_self ..))
          have tokL := True.intro
          go_wp2_with (first
              | (go_at_call 19; have _t := tokL; refine (lookT (hc.out.up (by (repeat (first | (with_reducible exact Upd.refl _ _) | (with_reducible assumption) | (with_reducible apply Upd.drew) | (with_reducible apply Upd.alloc) | (refine Upd0.tr ?_ (by with_reducible assumption)) | (refine Upd.setCell ?_ (fun h => absurd h (by first | exact Nat.lt_irrefl _ | (simp only []; omega))) _))); done)) (by omega) x.i).use ?_; rintro v w4 ⟨rfl, hT, hu4⟩; rw [q1.out, q2.out]; obtain ⟨a0, a1, a2, a3, a4⟩ := five (hT.2 _ (List.mem_cons_self ..)); have hlt4 : wr.heap.size < w4.heap.size := blk_lt (hT.2 _ (List.mem_cons_self ..)); have n4 : ¬ wr.heap.size = w4.heap.size := (by omega); have n4' : ¬ w4.heap.size = wr.heap.size := (by omega); have h4 := Lib.hid hT; have tokR := True.intro; clear hT tokL _t)
              | (go_at_call 20; have _t := tokR; refine (rlookT (h4.out.add (by (repeat (first | (with_reducible exact Upd.refl _ _) | (with_reducible assumption) | (with_reducible apply Upd.drew) | (with_reducible apply Upd.alloc) | (refine Upd0.tr ?_ (by with_reducible assumption)) | (refine Upd.setCell ?_ (fun h => absurd h (by first | exact Nat.lt_irrefl _ | (simp only []; omega))) _))); done) (alloc_last _ _ w4.heap.size rfl) (Nat.le_refl _)) (by omega) x.i).use ?_; rintro v w5 ⟨rfl, hT, hu5⟩; rw [q1.out, q2.out]; obtain ⟨b0, b1, b2⟩ := three (hT.2 _ (List.mem_cons_self ..)); have hlt5 : w4.heap.size < w5.heap.size := blk_lt (hT.2 _ (List.mem_cons_self ..)); have n5 : ¬ w4.heap.size = w5.heap.size := (by omega); have n5' : ¬ w5.heap.size = w4.heap.size := (by omega); have h5 := Lib.hid hT; have tokS := True.intro; clear hT tokR _t)
              | (go_at_call 14; have _t := tokS; refine (same_refl _ q).use ?_; rintro v w6 ⟨rfl, hu6⟩; have h6 := Lib.hid (h5.out.up (Upd0.tr (show Upd0 _ _ from (by (repeat (first | (with_reducible exact Upd.refl _ _) | (with_reducible assumption) | (with_reducible apply Upd.drew) | (with_reducible apply Upd.alloc) | (refine Upd0.tr ?_ (by with_reducible assumption)) | (refine Upd.setCell ?_ (fun h => absurd h (by first | exact Nat.lt_irrefl _ | (simp only []; omega))) _))); done)) hu6)); obtain ⟨aoL, capL, cL⟩ := h6.out.cellL; have tokN := True.intro; clear tokS _t)
              | (go_at_call 21; have _t := tokN; refine (lenT (h6.out.up (by (repeat (first | (with_reducible exact Upd.refl _ _) | (with_reducible assumption) | (with_reducible apply Upd.drew) | (with_reducible apply Upd.alloc) | (refine Upd0.tr ?_ (by with_reducible assumption)) | (refine Upd.setCell ?_ (fun h => absurd h (by first | exact Nat.lt_irrefl _ | (simp only []; omega))) _))); done))).use ?_; rintro v w7 ⟨rfl, rfl⟩)
              | (have _t := tokS; (with_reducible refine wp_serial2 15 19 [0, 1, 2, 3, 4, 5, 6, 7, 8, 9, 10, 11, 12, 13, 14, 16, 17, 18, 19, 15, 20, 21, 22] [_, _, _, _, _, _, _, _, _, _, _, _, _, _, _, _, _, _, _, _, _, _, _] (by kernel_rfl) (by decide +kernel) rfl (by (repeat (first | (with_reducible apply NoBad.then) | (with_reducible apply NoBad.inBlock) | (with_reducible exact NoBad.rets))); done) ?_ ?_))
              | (with_reducible refine wp_serial (by kernel_rfl) (by kernel_rfl) (by (repeat (first | (with_reducible apply NoBad.then) | (with_reducible apply NoBad.inBlock) | (with_reducible exact NoBad.rets))); done) ?_)
              | fail)
          all_goals go_roundw
          all_goals first | exact ⟨k + 1, S2, by omega, by omega, by go_num, by omega, Lib.hid (h6.out.drop.up (by (repeat (first | (with_reducible exact Upd.refl _ _) | (with_reducible assumption) | (with_reducible apply Upd.drew) | (with_reducible apply Upd.alloc) | (refine Upd0.tr ?_ (by with_reducible assumption)) | (refine Upd.setCell ?_ (fun h => absurd h (by first | exact Nat.lt_irrefl _ | (simp only []; omega))) _))); done))⟩ | ((repeat apply Exists.intro); exact ⟨⟨k + 1, S2, by omega, by omega, by go_num, by omega, Lib.hid (h6.out.drop.up (by (repeat (first | (with_reducible exact Upd.refl _ _) | (with_reducible assumption) | (with_reducible apply Upd.drew) | (with_reducible apply Upd.alloc) | (refine Upd0.tr ?_ (by with_reducible assumption)) | (refine Upd.setCell ?_ (fun h => absurd h (by first | exact Nat.lt_irrefl _ | (simp only []; omega))) _))); done))⟩, rfl⟩) | (simp [intOf]; omega)
    · have hwhy : k = xs.length ∨ k = 80 := by omega
      have hkx : ¬ (k < xs.length) ∨ (k < xs.length ∧ k = 80) := by omega
      clear hlt hwhy
      have hup := hn.out.upd
      have h0 := hn
      rcases hkx with hkx | ⟨hkx, rfl⟩
      all_goals
        go_wp2_with (first | (with_reducible refine wp_serial (by kernel_rfl) (by kernel_rfl) (by (repeat (first | (with_reducible apply NoBad.then) | (with_reducible apply NoBad.inBlock) | (with_reducible exact NoBad.rets))); done) ?_) | fail)
        go_loopw [21] (fun i wq => ∃ j : Nat, j ≤ S.length ∧ i = .int .i64 j ∧ Hid (Tw w wq [] b w1.heap.size nd rm S S)) (fun i _ => S.length - (intOf i).toNat)
        case atStart => exact ⟨0, Nat.zero_le _, rfl, Lib.hid (h0.out.up (by (repeat (first | (with_reducible exact Upd.refl _ _) | (with_reducible assumption) | (with_reducible apply Upd.drew) | (with_reducible apply Upd.alloc) | (refine Upd0.tr ?_ (by with_reducible assumption)) | (refine Upd.setCell ?_ (fun h => absurd h (by first | exact Nat.lt_irrefl _ | (simp only []; omega))) _))); done))⟩
        case round =>
          obtain ⟨j, hj, rfl, hm⟩ := hrel
          by_cases hlt2 : j < S.length
          · obtain ⟨p, hp⟩ : ∃ p, S[j]? = some p := ⟨S[j], by simp [hlt2]⟩
            obtain ⟨l1, l2⟩ := look_nat hp
            have l1h := Lib.hid l1
            have l2h := Lib.hid l2
            have hph := Lib.hid hp
            clear hp l1 l2
            obtain ⟨ao0, cap0, cL0⟩ := hm.out.cellL
            go_wp2_with (first
              | (go_at_call 19; refine (lookT (hm.out.up (by (repeat (first | (with_reducible exact Upd.refl _ _) | (with_reducible assumption) | (with_reducible apply Upd.drew) | (with_reducible apply Upd.alloc) | (refine Upd0.tr ?_ (by with_reducible assumption)) | (refine Upd.setCell ?_ (fun h => absurd h (by first | exact Nat.lt_irrefl _ | (simp only []; omega))) _))); done)) (by omega) j).use ?_; rintro v w4 ⟨rfl, hT, hu4⟩; rw [l1h.out, l2h.out]; obtain ⟨gL, capL, cL, hgL, f0, f1, f2⟩ := hT.cellsL hph.out; have nL : ¬ gL = w4.heap.size := (by omega); have nL' : ¬ w4.heap.size = gL := (by omega); have hlt4 := hT.lt; have nb : ¬ w1.heap.size = w4.heap.size := (by omega); have nb' : ¬ w4.heap.size = w1.heap.size := (by omega); have h4 := Lib.hid hT; clear hT)
              | (go_at_call 14; refine (same_refl _ p).use ?_; rintro v w5 ⟨rfl, hu5⟩; have h5 := Lib.hid (h4.out.up (Upd0.tr (show Upd0 _ _ from (by (repeat (first | (with_reducible exact Upd.refl _ _) | (with_reducible assumption) | (with_reducible apply Upd.drew) | (with_reducible apply Upd.alloc) | (refine Upd0.tr ?_ (by with_reducible assumption)) | (refine Upd.setCell ?_ (fun h => absurd h (by first | exact Nat.lt_irrefl _ | (simp only []; omega))) _))); done)) hu5)))
              | (with_reducible refine wp_serial (by kernel_rfl) (by kernel_rfl) (by (repeat (first | (with_reducible apply NoBad.then) | (with_reducible apply NoBad.inBlock) | (with_reducible exact NoBad.rets))); done) ?_) | fail)
            go_roundw
            case rel => exact ⟨j + 1, by omega, by go_num, Lib.hid (h5.out.up (by (repeat (first | (with_reducible exact Upd.refl _ _) | (with_reducible assumption) | (with_reducible apply Upd.drew) | (with_reducible apply Upd.alloc) | (refine Upd0.tr ?_ (by with_reducible assumption)) | (refine Upd.setCell ?_ (fun h => absurd h (by first | exact Nat.lt_irrefl _ | (simp only []; omega))) _))); done))⟩
            case measure => simp [intOf]; omega
          · obtain ⟨ao0, cap0, cL0⟩ := hm.out.cellL
            have hupm := hm.out.upd
            go_wp2_with (first
              | (go_at_call 9; refine (live_any _).use ?_; rintro v w4 ⟨rfl, hu4⟩)
              | (with_reducible refine wp_serial (by kernel_rfl) (by kernel_rfl) (by (repeat (first | (with_reducible apply NoBad.then) | (with_reducible apply NoBad.inBlock) | (with_reducible exact NoBad.rets))); done) ?_) | fail)
            all_goals go_returns
            all_goals exact ⟨rfl, (by (repeat (first | (with_reducible exact Upd.refl _ _) | (with_reducible assumption) | (with_reducible apply Upd.drew) | (with_reducible apply Upd.alloc) | (refine Upd0.tr ?_ (by with_reducible assumption)) | (refine Upd.setCell ?_ (fun h => absurd h (by first | exact Nat.lt_irrefl _ | (simp only []; omega))) _))); done)⟩
end Go.Proofs.Ytfhaehkofeiobaa
