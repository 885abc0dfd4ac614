/-
  The walk of NetClears: behind a Clear no packet to that node is on its way, and all others are.
-/
import Derived.Test.YtfhaehkofeiobaaNetDoubles
import Derived.Handy
namespace Go.Proofs.Ytfhaehkofeiobaa
open Go.RowKit
set_option linter.unusedSimpArgs false
set_option linter.unusedVariables false

/-- a slice of packets that came in -/
def PkR (w : World) (ao : Option Addr) (ps : List Pk) : Prop := ps = [] ∨ ∃ g o, ao = some ⟨g, o, none⟩ ∧ g < w.heap.size ∧ ∀ (i : Nat) p, ps[i]? = some p → w.cell? ⟨g, o + i * 3, none⟩ = some (.int .i64 p.fr) ∧ w.cell? ⟨g, o + i * 3 + 1, none⟩ = some (.int .i64 p.to) ∧ w.cell? ⟨g, o + i * 3 + 2, none⟩ = some (.string p.by_)
theorem PkR.some {w : World} {ao : Option Addr} {ps : List Pk} (h : PkR w ao ps) {k : Nat} {p : Pk} (hk : ps[k]? = some p) : ∃ g o, ao = some ⟨g, o, none⟩ ∧ g < w.heap.size ∧ w.cell? ⟨g, o + k * 3, none⟩ = some (.int .i64 p.fr) ∧ w.cell? ⟨g, o + k * 3 + 1, none⟩ = some (.int .i64 p.to) ∧ w.cell? ⟨g, o + k * 3 + 2, none⟩ = some (.string p.by_) := by
  rcases h with rfl | ⟨g, o, h1, h2, h3⟩
  · simp at hk
  · obtain ⟨a, b, c⟩ := h3 k p hk
    exact ⟨g, o, h1, h2, a, b, c⟩
/-- what was sent of the first k -/
def sent (ps : List Pk) (k : Nat) : List Pk := (ps.take k).filter (okPk 10)
theorem sent_step {ps : List Pk} {k : Nat} {p : Pk} (hp : ps[k]? = some p) (hl : (sent ps k).length < 1000) : sendC 10 1000 (sent ps k) p = (if okPk 10 p then 0 else 1) ∧ sendL 10 1000 (sent ps k) p = sent ps (k + 1) := by
  have h1 : ¬ (1000 : Int) ≤ (sent ps k).length := by omega
  have h2 : sent ps (k + 1) = sent ps k ++ (if okPk 10 p then [p] else []) := by
    simp only [sent, List.take_add_one, hp, List.filter_append]
    congr 1
    show List.filter (okPk 10) [p] = _
    rw [List.filter_cons, List.filter_nil]
  rw [sendC, sendL, h2]
  cases okPk 10 p <;> simp [h1]
theorem sent_len (ps : List Pk) (k : Nat) : (sent ps k).length ≤ k := by
  have h1 := List.length_filter_le (okPk 10) (ps.take k)
  have h2 := List.length_take_le k ps
  simp only [sent]; omega
theorem keep_app (node : Int) (l : List Pk) (p : Pk) : keepL node (l ++ [p]) = keepL node l ++ (if hitTo node p then [] else [p]) := by
  simp only [keepL, List.filter_append]
  congr 1
  rw [List.filter_cons, List.filter_nil]
  cases hitTo node p <;> simp
theorem sent_succ {ps : List Pk} {k : Nat} {p : Pk} (hp : ps[k]? = some p) : sent ps (k + 1) = sent ps k ++ (if okPk 10 p then [p] else []) := by
  simp only [sent, List.take_add_one, hp, List.filter_append]
  congr 1
  show List.filter (okPk 10) [p] = _
  rw [List.filter_cons, List.filter_nil]
theorem others_step {ps : List Pk} {k : Nat} {p : Pk} (node : Int) (hp : ps[k]? = some p) : ((keepL node (sent ps (k + 1))).length : Int) = (keepL node (sent ps k)).length + (if okPk 10 p then (if hitTo node p then 0 else 1) else 0) := by
  rw [sent_succ hp]
  cases okPk 10 p
  · simp
  · rw [if_pos rfl, keep_app]
    cases hitTo node p <;> simp
theorem keep_len (node : Int) (l : List Pk) : (keepL node l).length ≤ l.length := List.length_filter_le _ _
theorem keep_get {node : Int} {l : List Pk} {k : Nat} (h : k < (keepL node l).length) : ∃ p, (keepL node l)[k]? = some p ∧ hitTo node p = false := by
  refine ⟨(keepL node l)[k], by simp [h], ?_⟩
  have := List.getElem_mem h
  have h2 := (List.mem_filter.1 (show (keepL node l)[k] ∈ l.filter fun p => !hitTo node p from this)).2
  simpa using h2
set_option maxRecDepth 100000 in
set_option maxHeartbeats 8000000 in
theorem netClears_walk (ao : Option Addr) (cap : Nat) (ps : List Pk) (node : Int) (w : World) (hS : PkR w ao ps) (hlen : ps.length ≤ maxLen) :
    Calls Try.prog 6 #[.slice ao ps.length cap, .int .i64 node] w (Rets fun r w' => r = .bool true ∧ Upd0 w w') := by
  have hSh := Lib.hid hS
  clear hS
  simp only [maxLen] at hlen
  rcases Nat.lt_or_ge 60 ps.length with h60 | h60
  · go_enter Try.func6, Try.ntmps6
    go_wp2_with (first
      | (go_at_call 9; refine (live_any _).use ?_; rintro v w1 ⟨rfl, hu1⟩)
      | (with_reducible refine wp_serial (by kernel_rfl) (by kernel_rfl) (by (repeat (first | (with_reducible apply NoBad.then) | (with_reducible apply NoBad.inBlock) | (with_reducible exact NoBad.rets))); done) ?_) | fail)
    all_goals go_returns
    all_goals exact ⟨rfl, (by (repeat (first | (with_reducible exact Upd.refl _ _) | (with_reducible assumption) | (with_reducible apply Upd.drew) | (with_reducible apply Upd.alloc) | (refine Upd0.tr ?_ (by with_reducible assumption)) | (refine Upd.setCell ?_ (fun h => absurd h (by first | exact Nat.lt_irrefl _ | (simp only []; omega))) _))); done)⟩
  go_enter Try.func6, Try.ntmps6
  go_wp2_with (first
    | (go_at_call 8; refine (newA (w0 := w) 10 1000 (Upd.refl _ _) (by decide)).use ?_; rintro v w1 ⟨b, rfl, hb1, hn1, hu1⟩; have h1 := Lib.hid hn1; clear hn1)
    | (with_reducible refine wp_serial (by kernel_rfl) (by kernel_rfl) (by (repeat (first | (with_reducible apply NoBad.then) | (with_reducible apply NoBad.inBlock) | (with_reducible exact NoBad.rets))); done) ?_) | fail)
  go_loopw [7, 8] (fun o j wr => ∃ k : Nat, k ≤ ps.length ∧ j = .int .i64 k ∧ o = .int .i64 (keepL node (sent ps k)).length ∧ Hid (NetAt 55 37 w wr [] b 10 1000 (sent ps k))) (fun _ j _ => ps.length - (intOf j).toNat)
  case atStart => exact ⟨0, Nat.zero_le _, rfl, rfl, Lib.hid (h1.out.up (by (repeat (first | (with_reducible exact Upd.refl _ _) | (with_reducible assumption) | (with_reducible apply Upd.drew) | (with_reducible apply Upd.alloc) | (refine Upd0.tr ?_ (by with_reducible assumption)) | (refine Upd.setCell ?_ (fun h => absurd h (by first | exact Nat.lt_irrefl _ | (simp only []; omega))) _))); done))⟩
  case round =>
    obtain ⟨k, hk, rfl, rfl, hn⟩ := hrel
    by_cases hlt : k < ps.length
    · obtain ⟨p, hp⟩ : ∃ p, ps[k]? = some p := ⟨ps[k], by simp [hlt]⟩
      obtain ⟨g, o, rfl, hg, c0, c1, c2⟩ := hSh.out.some hp
      have hsl := sent_len ps k
      have hkn := keep_len node (sent ps k)
      have hup := hn.out.upd
      have d0 := hup.cell (fun h => h) c0
      have d1 := hup.cell (fun h => h) c1
      have d2 := hup.cell (fun h => h) c2
      obtain ⟨e1, e2⟩ := sent_step hp (by omega)
      have e3 := others_step node hp
      have e1h := Lib.hid e1
      have e2h := Lib.hid e2
      have e3h := Lib.hid e3
      clear hp e1 e2 e3 c0 c2
      rcases Nat.lt_or_ge 1000 p.by_.size with hz | hz
      · go_wp2_with (first
          | (go_at_call 9; refine (live_any _).use ?_; rintro v w2 ⟨rfl, hu2⟩)
          | (with_reducible refine wp_serial (by kernel_rfl) (by kernel_rfl) (by (repeat (first | (with_reducible apply NoBad.then) | (with_reducible apply NoBad.inBlock) | (with_reducible exact NoBad.rets))); done) ?_) | fail)
        all_goals go_returns
        all_goals exact ⟨rfl, (by (repeat (first | (with_reducible exact Upd.refl _ _) | (with_reducible assumption) | (with_reducible apply Upd.drew) | (with_reducible apply Upd.alloc) | (refine Upd0.tr ?_ (by with_reducible assumption)) | (refine Upd.setCell ?_ (fun h => absurd h (by first | exact Nat.lt_irrefl _ | (simp only []; omega))) _))); done)⟩
      · have hcs : (okPk 10 p = false) ∨ (okPk 10 p = true ∧ hitTo node p = true) ∨ (okPk 10 p = true ∧ hitTo node p = false) := by
          cases okPk 10 p <;> cases hitTo node p <;> simp
        rcases hcs with ho | ⟨ho, hh⟩ | ⟨ho, hh⟩
        · have e1k := Lib.hid (show sendC 10 1000 (sent ps k) p = 1 by rw [e1h.out, ho]; rfl)
          have e3k := Lib.hid (show ((keepL node (sent ps (k + 1))).length : Int) = (keepL node (sent ps k)).length by rw [e3h.out, ho]; simp)
          clear ho
          go_wp2_with (first
            | (go_at_call 10; have qq := e1k.out; clear qq; refine (sendA (w0 := w) (b := b) (nd := 10) (rm := 1000) p (hn.out.up (by (repeat (first | (with_reducible exact Upd.refl _ _) | (with_reducible assumption) | (with_reducible apply Upd.drew) | (with_reducible apply Upd.alloc) | (refine Upd0.tr ?_ (by with_reducible assumption)) | (refine Upd.setCell ?_ (fun h => absurd h (by first | exact Nat.lt_irrefl _ | (simp only []; omega))) _))); done)) (by decide) (by decide) (by decide)).use ?_; rintro v w2 ⟨rfl, hn2, hkp⟩; rw [e1k.out]; rw [e2h.out] at hn2; have e4 := hn2.upd.cell (fun h => h) c1; have h2 := Lib.hid hn2; clear hn2 hkp)
            | (with_reducible refine wp_serial (by kernel_rfl) (by kernel_rfl) (by (repeat (first | (with_reducible apply NoBad.then) | (with_reducible apply NoBad.inBlock) | (with_reducible exact NoBad.rets))); done) ?_) | fail)
          go_roundw
          case rel => exact ⟨k + 1, by omega, by go_num, congrArg (Value.int IntKind.i64) (by have := e3k.out; omega), Lib.hid (h2.out.up (by (repeat (first | (with_reducible exact Upd.refl _ _) | (with_reducible assumption) | (with_reducible apply Upd.drew) | (with_reducible apply Upd.alloc) | (refine Upd0.tr ?_ (by with_reducible assumption)) | (refine Upd.setCell ?_ (fun h => absurd h (by first | exact Nat.lt_irrefl _ | (simp only []; omega))) _))); done))⟩
          case measure => simp [intOf]; omega
        · have e1k := Lib.hid (show sendC 10 1000 (sent ps k) p = 0 by rw [e1h.out, ho]; rfl)
          have e3k := Lib.hid (show ((keepL node (sent ps (k + 1))).length : Int) = (keepL node (sent ps k)).length by rw [e3h.out, ho, hh]; simp)
          have hto : (p.to != node) = false := by rw [bne_eq_false_iff_eq]; simpa [hitTo] using hh
          clear ho hh
          go_wp2_with (first
            | (go_at_call 10; have qq := e1k.out; clear qq; refine (sendA (w0 := w) (b := b) (nd := 10) (rm := 1000) p (hn.out.up (by (repeat (first | (with_reducible exact Upd.refl _ _) | (with_reducible assumption) | (with_reducible apply Upd.drew) | (with_reducible apply Upd.alloc) | (refine Upd0.tr ?_ (by with_reducible assumption)) | (refine Upd.setCell ?_ (fun h => absurd h (by first | exact Nat.lt_irrefl _ | (simp only []; omega))) _))); done)) (by decide) (by decide) (by decide)).use ?_; rintro v w2 ⟨rfl, hn2, hkp⟩; rw [e1k.out]; rw [e2h.out] at hn2; have e4 := hn2.upd.cell (fun h => h) c1; have h2 := Lib.hid hn2; clear hn2 hkp)
            | (with_reducible refine wp_serial (by kernel_rfl) (by kernel_rfl) (by (repeat (first | (with_reducible apply NoBad.then) | (with_reducible apply NoBad.inBlock) | (with_reducible exact NoBad.rets))); done) ?_) | fail)
          go_roundw
          case rel => exact ⟨k + 1, by omega, by go_num, congrArg (Value.int IntKind.i64) (by have := e3k.out; omega), Lib.hid (h2.out.up (by (repeat (first | (with_reducible exact Upd.refl _ _) | (with_reducible assumption) | (with_reducible apply Upd.drew) | (with_reducible apply Upd.alloc) | (refine Upd0.tr ?_ (by with_reducible assumption)) | (refine Upd.setCell ?_ (fun h => absurd h (by first | exact Nat.lt_irrefl _ | (simp only []; omega))) _))); done))⟩
          case measure => simp [intOf]; omega
        · have e1k := Lib.hid (show sendC 10 1000 (sent ps k) p = 0 by rw [e1h.out, ho]; rfl)
          have e3k := Lib.hid (show ((keepL node (sent ps (k + 1))).length : Int) = (keepL node (sent ps k)).length + 1 by rw [e3h.out, ho, hh]; simp)
          have hto : (p.to != node) = true := by rw [bne_iff_ne]; simpa [hitTo] using hh
          clear ho hh
          go_wp2_with (first
            | (go_at_call 10; have qq := e1k.out; clear qq; refine (sendA (w0 := w) (b := b) (nd := 10) (rm := 1000) p (hn.out.up (by (repeat (first | (with_reducible exact Upd.refl _ _) | (with_reducible assumption) | (with_reducible apply Upd.drew) | (with_reducible apply Upd.alloc) | (refine Upd0.tr ?_ (by with_reducible assumption)) | (refine Upd.setCell ?_ (fun h => absurd h (by first | exact Nat.lt_irrefl _ | (simp only []; omega))) _))); done)) (by decide) (by decide) (by decide)).use ?_; rintro v w2 ⟨rfl, hn2, hkp⟩; rw [e1k.out]; rw [e2h.out] at hn2; have e4 := hn2.upd.cell (fun h => h) c1; have h2 := Lib.hid hn2; clear hn2 hkp)
            | (with_reducible refine wp_serial (by kernel_rfl) (by kernel_rfl) (by (repeat (first | (with_reducible apply NoBad.then) | (with_reducible apply NoBad.inBlock) | (with_reducible exact NoBad.rets))); done) ?_) | fail)
          go_roundw
          case rel => exact ⟨k + 1, by omega, by go_num, congrArg (Value.int IntKind.i64) (by have := e3k.out; omega), Lib.hid (h2.out.up (by (repeat (first | (with_reducible exact Upd.refl _ _) | (with_reducible assumption) | (with_reducible apply Upd.drew) | (with_reducible apply Upd.alloc) | (refine Upd0.tr ?_ (by with_reducible assumption)) | (refine Upd.setCell ?_ (fun h => absurd h (by first | exact Nat.lt_irrefl _ | (simp only []; omega))) _))); done))⟩
          case measure => simp [intOf]; omega
    · obtain rfl : k = ps.length := by omega
      have hsl := sent_len ps ps.length
      have hkl := keep_len node (sent ps ps.length)
      have hkg : Hid (∀ k, k < (keepL node (sent ps ps.length)).length → ∃ p, (keepL node (sent ps ps.length))[k]? = some p ∧ hitTo node p = false) := Lib.hid (fun k h => keep_get h)
      obtain ⟨S, hS⟩ : ∃ S, sent ps ps.length = S := ⟨_, rfl⟩
      rw [hS] at hsl hkl hkg hn ⊢
      clear hS
      go_wp2_with (first
        | (go_at_call 21; have qq := h2.out; clear qq; refine (lenA (h2.out.up (by (repeat (first | (with_reducible exact Upd.refl _ _) | (with_reducible assumption) | (with_reducible apply Upd.drew) | (with_reducible apply Upd.alloc) | (refine Upd0.tr ?_ (by with_reducible assumption)) | (refine Upd.setCell ?_ (fun h => absurd h (by first | exact Nat.lt_irrefl _ | (simp only []; omega))) _))); done))).use ?_; rintro v w3 ⟨rfl, rfl⟩)
        | (go_at_call 21; have qq := hn.out; clear qq; refine (lenA (hn.out.up (by (repeat (first | (with_reducible exact Upd.refl _ _) | (with_reducible assumption) | (with_reducible apply Upd.drew) | (with_reducible apply Upd.alloc) | (refine Upd0.tr ?_ (by with_reducible assumption)) | (refine Upd.setCell ?_ (fun h => absurd h (by first | exact Nat.lt_irrefl _ | (simp only []; omega))) _))); done))).use ?_; rintro v w3 ⟨rfl, rfl⟩)
        | (go_at_call 17; have qq := hn.out; clear qq; refine (clearA (w0 := w) (b := b) (nd := 10) (rm := 1000) (l := S) (hn.out.up (by (repeat (first | (with_reducible exact Upd.refl _ _) | (with_reducible assumption) | (with_reducible apply Upd.drew) | (with_reducible apply Upd.alloc) | (refine Upd0.tr ?_ (by with_reducible assumption)) | (refine Upd.setCell ?_ (fun h => absurd h (by first | exact Nat.lt_irrefl _ | (simp only []; omega))) _))); done)) (by omega) node).use ?_; rintro v w2 ⟨rfl, hn2, -⟩; have h2 := Lib.hid hn2; clear hn2)
        | (with_reducible refine wp_serial (by kernel_rfl) (by kernel_rfl) (by (repeat (first | (with_reducible apply NoBad.then) | (with_reducible apply NoBad.inBlock) | (with_reducible exact NoBad.rets))); done) ?_) | fail)
      go_loopw [11] (fun i wq => ∃ k : Nat, k ≤ (keepL node S).length ∧ i = .int .i64 k ∧ Hid (NetAt 55 37 w wq [] b 10 1000 (keepL node S))) (fun i _ => (keepL node S).length - (intOf i).toNat)
      case atStart => exact ⟨0, Nat.zero_le _, rfl, Lib.hid (h2.out.up (by (repeat (first | (with_reducible exact Upd.refl _ _) | (with_reducible assumption) | (with_reducible apply Upd.drew) | (with_reducible apply Upd.alloc) | (refine Upd0.tr ?_ (by with_reducible assumption)) | (refine Upd.setCell ?_ (fun h => absurd h (by first | exact Nat.lt_irrefl _ | (simp only []; omega))) _))); done))⟩
      case round =>
        obtain ⟨k, hk2, rfl, hn3⟩ := hrel
        by_cases hlt2 : k < (keepL node S).length
        · obtain ⟨p, hp, hh⟩ := hkg.out k hlt2
          obtain ⟨l1, l2⟩ := look_nat hp
          have l1h := Lib.hid l1
          have l2h := Lib.hid l2
          have hto : (p.to == node) = false := by simpa [hitTo] using hh
          clear hp hh l1 l2
          go_wp2_with (first
            | (go_at_call 19; refine (lookA (w0 := w) (b := b) (nd := 10) (rm := 1000) (l := keepL node S) (hn3.out.up (by (repeat (first | (with_reducible exact Upd.refl _ _) | (with_reducible assumption) | (with_reducible apply Upd.drew) | (with_reducible apply Upd.alloc) | (refine Upd0.tr ?_ (by with_reducible assumption)) | (refine Upd.setCell ?_ (fun h => absurd h (by first | exact Nat.lt_irrefl _ | (simp only []; omega))) _))); done)) (by omega) k).use ?_; rintro v w4 ⟨rfl, hu4⟩; rw [l1h.out, l2h.out]; have h4 := Lib.hid (hn3.out.up (Upd0.tr (show Upd0 _ _ from (by (repeat (first | (with_reducible exact Upd.refl _ _) | (with_reducible assumption) | (with_reducible apply Upd.drew) | (with_reducible apply Upd.alloc) | (refine Upd0.tr ?_ (by with_reducible assumption)) | (refine Upd.setCell ?_ (fun h => absurd h (by first | exact Nat.lt_irrefl _ | (simp only []; omega))) _))); done)) hu4)))
            | (with_reducible refine wp_serial (by kernel_rfl) (by kernel_rfl) (by (repeat (first | (with_reducible apply NoBad.then) | (with_reducible apply NoBad.inBlock) | (with_reducible exact NoBad.rets))); done) ?_) | fail)
          go_roundw
          case rel => exact ⟨k + 1, by omega, by go_num, Lib.hid (h4.out.up (by (repeat (first | (with_reducible exact Upd.refl _ _) | (with_reducible assumption) | (with_reducible apply Upd.drew) | (with_reducible apply Upd.alloc) | (refine Upd0.tr ?_ (by with_reducible assumption)) | (refine Upd.setCell ?_ (fun h => absurd h (by first | exact Nat.lt_irrefl _ | (simp only []; omega))) _))); done))⟩
          case measure => simp [intOf]; omega
        · have hup := hn3.out.upd
          go_wp2_with (first
            | (go_at_call 9; refine (live_any _).use ?_; rintro v w4 ⟨rfl, hu4⟩)
            | (with_reducible refine wp_serial (by kernel_rfl) (by kernel_rfl) (by (repeat (first | (with_reducible apply NoBad.then) | (with_reducible apply NoBad.inBlock) | (with_reducible exact NoBad.rets))); done) ?_) | fail)
          all_goals go_returns
          all_goals exact ⟨rfl, (by (repeat (first | (with_reducible exact Upd.refl _ _) | (with_reducible assumption) | (with_reducible apply Upd.drew) | (with_reducible apply Upd.alloc) | (refine Upd0.tr ?_ (by with_reducible assumption)) | (refine Upd.setCell ?_ (fun h => absurd h (by first | exact Nat.lt_irrefl _ | (simp only []; omega))) _))); done)⟩
end Go.Proofs.Ytfhaehkofeiobaa
