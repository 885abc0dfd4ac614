/-
  Denials: some answers that the document gives; operations of a script.
-/
import Derived.Test.YtdjleplefbmjbaaDnF
namespace Go.Proofs.Ytdjleplefbmjbaa
open Go.RowKit Go.Shelf
set_option linter.unusedSimpArgs false
set_option linter.unusedVariables false
variable {B : Nat}
deriving instance DecidableEq for Ent
/-- an operation of a script -/
structure OpD where
  dO : Int
  q : Bs
  ty : Int
  k : Int
  r : Rc
  now : Int
def OpD.val (o : OpD) : Value := .agg #[.int .i64 o.dO, .string ⟨o.q.toArray⟩, .int .i64 o.ty, .int .i64 o.k, .string ⟨o.r.nm.toArray⟩, .int .i64 o.r.ty, .int .i64 o.r.tl, .string ⟨o.r.d.toArray⟩, .int .i64 o.now]
def OpD.sh (o : OpD) : Bool := decide (o.q.length ≤ 300) && (decide (o.r.nm.length ≤ 300) && decide (o.r.d.length ≤ 600))
theorem le600 (n : Nat) : decide ((n : Int) ≤ 600) = decide (n ≤ 600) := by rw [decide_eq_decide]; omega
set_option maxRecDepth 100000 in
theorem dshort_w (o : OpD) (w : World) : Calls Try.prog 34 #[o.val] w (Rets fun r w' => r = .bool o.sh ∧ Upd0 w w') := by
  obtain ⟨dO, q, ty, k, ⟨nm, rt, tl, d⟩, now⟩ := o
  simp only [OpD.val, OpD.sh]
  rcases Nat.lt_or_ge 300 q.length with h1 | h1
  · go_enter Try.func34, Try.ntmps34
    go_wp2_with (first | (with_reducible refine wp_serial (by kernel_rfl) (by kernel_rfl) (by (repeat (first | (with_reducible apply NoBad.then) | (with_reducible apply NoBad.inBlock) | (with_reducible exact NoBad.rets))); done) ?_) | fail)
    all_goals go_returns
    all_goals exact ⟨by rw [decide_eq_false (Nat.not_le.2 h1)]; rfl, (by (repeat (first | (with_reducible exact Upd.refl _ _) | (with_reducible assumption) | (with_reducible apply Upd.drew) | (with_reducible apply Upd.alloc) | (refine Upd0.tr ?_ (by with_reducible assumption)) | (refine Upd.setCell ?_ (fun h => absurd h (by first | exact Nat.lt_irrefl _ | (simp only []; omega))) _))); done)⟩
  · rcases Nat.lt_or_ge 300 nm.length with h2 | h2
    · go_enter Try.func34, Try.ntmps34
      go_wp2_with (first | (with_reducible refine wp_serial (by kernel_rfl) (by kernel_rfl) (by (repeat (first | (with_reducible apply NoBad.then) | (with_reducible apply NoBad.inBlock) | (with_reducible exact NoBad.rets))); done) ?_) | fail)
      all_goals go_returns
      all_goals exact ⟨by rw [decide_eq_false (Nat.not_le.2 h2)]; rfl, (by (repeat (first | (with_reducible exact Upd.refl _ _) | (with_reducible assumption) | (with_reducible apply Upd.drew) | (with_reducible apply Upd.alloc) | (refine Upd0.tr ?_ (by with_reducible assumption)) | (refine Upd.setCell ?_ (fun h => absurd h (by first | exact Nat.lt_irrefl _ | (simp only []; omega))) _))); done)⟩
    · go_enter Try.func34, Try.ntmps34
      go_wp2_with (first | (with_reducible refine wp_serial (by kernel_rfl) (by kernel_rfl) (by (repeat (first | (with_reducible apply NoBad.then) | (with_reducible apply NoBad.inBlock) | (with_reducible exact NoBad.rets))); done) ?_) | fail)
      all_goals go_returns
      all_goals exact ⟨by have e3 : decide (nm.length ≤ 300) = true := decide_eq_true h2; have e4 : decide (q.length ≤ 300) = true := decide_eq_true h1; first | (rw [← le600]; rfl) | (rw [e3, Bool.true_and, ← le600]; rfl) | (rw [e4, e3, Bool.true_and, Bool.true_and, ← le600]; rfl) | (simp [e3, e4, le600]), (by (repeat (first | (with_reducible exact Upd.refl _ _) | (with_reducible assumption) | (with_reducible apply Upd.drew) | (with_reducible apply Upd.alloc) | (refine Upd0.tr ?_ (by with_reducible assumption)) | (refine Upd.setCell ?_ (fun h => absurd h (by first | exact Nat.lt_irrefl _ | (simp only []; omega))) _))); done)⟩
/-- the SOA record of a simple zone -/
def sSoa : Rc := ⟨[1, 97], 6, 9, [2, 110, 115, 1, 97, 0, 1, 109, 0, 0, 0, 0, 5, 0, 0, 0, 10, 0, 0, 0, 3, 0, 0, 0, 100, 0, 0, 0, 4]⟩
set_option maxRecDepth 100000 in
theorem simple_w (w : World) : Calls Try.prog 58 #[] w (Rets fun r w' => ∃ g, r = .slice (some ⟨g, 0, none⟩) 3 3 ∧ Upd0 w w' ∧ w'.cell? ⟨g, 0, none⟩ = some (.string ⟨(sSoa.nm).toArray⟩) ∧ w'.cell? ⟨g, 1, none⟩ = some (.int .i64 6) ∧ w'.cell? ⟨g, 2, none⟩ = some (.int .i64 9) ∧ w'.cell? ⟨g, 3, none⟩ = some (.string ⟨(sSoa.d).toArray⟩)) := by
  go_enter Try.func58, Try.ntmps58
  go_wp2_with (first | (with_reducible refine wp_serial (by kernel_rfl) (by kernel_rfl) (by (repeat (first | (with_reducible apply NoBad.then) | (with_reducible apply NoBad.inBlock) | (with_reducible exact NoBad.rets))); done) ?_) | fail)
  go_returns
  have hb := alloc_last w (.cells #[.string ⟨#[1, 97]⟩, .int .i64 6, .int .i64 9, .string ⟨#[2, 110, 115, 1, 97, 0, 1, 109, 0, 0, 0, 0, 5, 0, 0, 0, 10, 0, 0, 0, 3, 0, 0, 0, 100, 0, 0, 0, 4]⟩, .string ⟨#[1, 97]⟩, .int .i64 2, .int .i64 9, .string ⟨#[2, 110, 115, 1, 97, 0]⟩, .string ⟨#[2, 110, 115, 1, 97]⟩, .int .i64 1, .int .i64 9, .string ⟨#[49, 49, 49, 49]⟩] 48 (0, 0)) _ rfl
  exact ⟨_, rfl, (by (repeat (first | (with_reducible exact Upd.refl _ _) | (with_reducible assumption) | (with_reducible apply Upd.drew) | (with_reducible apply Upd.alloc) | (refine Upd0.tr ?_ (by with_reducible assumption)) | (refine Upd.setCell ?_ (fun h => absurd h (by first | exact Nat.lt_irrefl _ | (simp only []; omega))) _))); done), by rw [blk_cell hb]; rfl, by rw [blk_cell hb]; rfl, by rw [blk_cell hb]; rfl, by rw [blk_cell hb]; rfl⟩
theorem live_put : put 2 100 [] [1, 120, 1, 97] 1 2 sSoa 5 = (0, [⟨[1, 120, 1, 97], 0, 2, [1, 97], 6, 9, sSoa.d, 9⟩]) := by decide +kernel
theorem live_put2 : (put 2 100 [⟨[1, 120, 1, 97], 0, 2, [1, 97], 6, 9, sSoa.d, 9⟩] [1, 98] 1 2 sSoa 5) = (9, [⟨[1, 120, 1, 97], 0, 2, [1, 97], 6, 9, sSoa.d, 9⟩]) := by decide +kernel
theorem live_time : timeN sSoa = 4 ∧ timeC sSoa = 0 := by decide +kernel
theorem live_getF : getF [⟨[1, 120, 1, 97], 0, 2, [1, 97], 6, 9, sSoa.d, 9⟩] (fold [1, 88, 1, 97]) 15 8 = some (0, ⟨[1, 120, 1, 97], 0, 2, [1, 97], 6, 9, sSoa.d, 9⟩) := by decide +kernel
theorem live_getF2 : getF [⟨[1, 120, 1, 97], 0, 2, [1, 97], 6, 9, sSoa.d, 9⟩] (fold [1, 120, 1, 97]) 15 9 = none := by decide +kernel
theorem live_get : getOut [⟨[1, 120, 1, 97], 0, 2, [1, 97], 6, 9, sSoa.d, 9⟩] [1, 88, 1, 97] 15 8 = getV 2 [1, 97] 6 1 sSoa.d true := by
  rw [getOut, if_pos (by decide), live_getF]
  show getV 2 [1, 97] 6 (wrap64 (9 - 8)) sSoa.d true = _
  rw [show wrap64 (9 - 8) = 1 by decide +kernel]
theorem live_get2 : getOut [⟨[1, 120, 1, 97], 0, 2, [1, 97], 6, 9, sSoa.d, 9⟩] [1, 120, 1, 97] 15 9 = getV 0 [] 0 0 [] false := by
  rw [getOut, if_pos (by decide), live_getF2]; rfl
theorem live_drop : (([⟨[1, 120, 1, 97], 0, 2, [1, 97], 6, 9, sSoa.d, 9⟩] : List Ent).filter fun x => !delD (fold [1, 120, 1, 97]) x) = [] := by decide +kernel
def lvE : Ent := ⟨[1, 120, 1, 97], 0, 2, [1, 97], 6, 9, sSoa.d, 9⟩
theorem lvT (w : World) : Calls Try.prog 41 #[.agg #[.string ⟨sSoa.nm.toArray⟩, .int .i64 6, .int .i64 9, .string ⟨sSoa.d.toArray⟩]] w (Rets fun r w' => r = .tuple #[.int .i64 4, .int .i64 0] ∧ Upd0 w w') := by
  refine (time_w sSoa.nm 6 9 sSoa.d (by decide) (by decide) w).mono ?_
  intro e w' he
  cases e <;> first | exact he.elim | skip
  obtain ⟨h1, h2⟩ := he
  rw [show timeN ⟨sSoa.nm, 6, 9, sSoa.d⟩ = 4 from live_time.1, show timeC ⟨sSoa.nm, 6, 9, sSoa.d⟩ = 0 from live_time.2] at h1
  exact ⟨h1, h2⟩
theorem lvP (t : Nat) (w : World) (h : Sto B w t 2 100 []) : Calls Try.prog 38 #[.pointer (some ⟨t, 0, none⟩), .agg #[.string ⟨#[1, 120, 1, 97]⟩, .int .i64 1], .int .i64 2, .agg #[.string ⟨sSoa.nm.toArray⟩, .int .i64 6, .int .i64 9, .string ⟨sSoa.d.toArray⟩], .int .i64 5] w (Rets fun r w' => r = .int .i64 0 ∧ UpdS B w w' ∧ Sto B w' t 2 100 [lvE]) := by
  refine (dput_w t 2 100 [] [1, 120, 1, 97] 1 2 sSoa.nm 6 9 sSoa.d 5 (by decide) (by decide) (by decide) w h).mono ?_
  intro e w' he
  cases e <;> first | exact he.elim | skip
  obtain ⟨h1, h2, h3⟩ := he
  rw [show put 2 100 [] [1, 120, 1, 97] 1 2 ⟨sSoa.nm, 6, 9, sSoa.d⟩ 5 = (0, [lvE]) from live_put] at h1 h3
  exact ⟨h1, h2, h3⟩
theorem lvQ (t : Nat) (w : World) (h : Sto B w t 2 100 [lvE]) : Calls Try.prog 38 #[.pointer (some ⟨t, 0, none⟩), .agg #[.string ⟨#[1, 98]⟩, .int .i64 1], .int .i64 2, .agg #[.string ⟨sSoa.nm.toArray⟩, .int .i64 6, .int .i64 9, .string ⟨sSoa.d.toArray⟩], .int .i64 5] w (Rets fun r w' => r = .int .i64 9 ∧ UpdS B w w' ∧ Sto B w' t 2 100 [lvE]) := by
  refine (dput_w t 2 100 [lvE] [1, 98] 1 2 sSoa.nm 6 9 sSoa.d 5 (by decide) (by decide) (by decide) w h).mono ?_
  intro e w' he
  cases e <;> first | exact he.elim | skip
  obtain ⟨h1, h2, h3⟩ := he
  rw [show put 2 100 [lvE] [1, 98] 1 2 ⟨sSoa.nm, 6, 9, sSoa.d⟩ 5 = (9, [lvE]) from live_put2] at h1 h3
  exact ⟨h1, h2, h3⟩
theorem lvG (t : Nat) (w : World) (h : Sto B w t 2 100 [lvE]) : Calls Try.prog 37 #[.pointer (some ⟨t, 0, none⟩), .agg #[.string ⟨#[1, 88, 1, 97]⟩, .int .i64 15], .int .i64 8] w (Rets fun r w' => r = .tuple #[.int .i64 2, .agg #[.string ⟨#[1, 97]⟩, .int .i64 6, .int .i64 1, .string ⟨sSoa.d.toArray⟩], .bool true] ∧ Upd0 w w') := by
  refine (dget_w h [1, 88, 1, 97] 15 8 (by decide)).mono ?_
  intro e w' he
  cases e <;> first | exact he.elim | skip
  exact ⟨he.1.trans live_get, he.2⟩
theorem lvH (t : Nat) (w : World) (h : Sto B w t 2 100 [lvE]) : Calls Try.prog 37 #[.pointer (some ⟨t, 0, none⟩), .agg #[.string ⟨#[1, 120, 1, 97]⟩, .int .i64 15], .int .i64 9] w (Rets fun r w' => r = .tuple #[.int .i64 0, .agg #[.string ⟨#[]⟩, .int .i64 0, .int .i64 0, .string ⟨#[]⟩], .bool false] ∧ Upd0 w w') := by
  refine (dget_w h [1, 120, 1, 97] 15 9 (by decide)).mono ?_
  intro e w' he
  cases e <;> first | exact he.elim | skip
  exact ⟨he.1.trans live_get2, he.2⟩
theorem lvD (t : Nat) (w : World) (h : Sto B w t 2 100 [lvE]) : Calls Try.prog 39 #[.pointer (some ⟨t, 0, none⟩), .string ⟨#[1, 120, 1, 97]⟩] w (Rets fun r w' => r = .int .i64 1 ∧ UpdS B w w') := by
  refine (ddrop_w t 2 100 [lvE] [1, 120, 1, 97] (by decide) w h).mono ?_
  intro e w' he
  cases e <;> first | exact he.elim | skip
  obtain ⟨h1, h2, h3⟩ := he
  rw [show ([lvE].filter fun x => !delD (fold [1, 120, 1, 97]) x) = [] from live_drop] at h1
  exact ⟨h1, h2⟩
theorem lvL (t : Nat) (w : World) (h : Sto B w t 2 100 [lvE]) : Calls Try.prog 40 #[.pointer (some ⟨t, 0, none⟩)] w (Rets fun r w' => r = .int .i64 1 ∧ Upd0 w w') := dlen_w t 2 100 [lvE] w h
set_option maxRecDepth 100000 in
set_option maxHeartbeats 2000000 in
theorem dlive_w (w : World) : Calls Try.prog 35 #[] w (Rets fun r w' => r = .bool true ∧ Upd0 w w') := by
  have tk1 : True := trivial
  have tk2 : True := trivial
  have tk3 : True := trivial
  go_enter Try.func35, Try.ntmps35
  go_wp2_with (first
    | (go_at_call 36; have _t := tk1; (with_reducible refine (dnew_w (B := w.heap.size) 2 100 (by decide) (by decide) (by decide) (by decide) _ (Nat.le_refl _)).use ?_); rintro v w1 ⟨t, rfl, hu1, hc1⟩; have k1 := Lib.hid hc1; clear hc1 tk1 _t)
    | (go_at_call 36; (with_reducible refine (dnew_no 0 1 rfl _).use ?_); rintro v w2 ⟨rfl, hu2⟩; have k2 := Lib.hid (k1.out.to0 hu2))
    | (go_at_call 58; (with_reducible refine (simple_w _).use ?_); rintro v w3 ⟨g, rfl, hu3, e0, e1, e2, e3⟩; have k3 := Lib.hid (k2.out.to0 hu3))
    | (go_at_call 41; (refine (lvT _).use ?_); rintro v w4 ⟨rfl, hu4⟩; have hv4 : Upd0 w3 w4 := (by (repeat (first | (with_reducible exact Upd.refl _ _) | (with_reducible assumption) | (with_reducible apply Upd.drew) | (with_reducible apply Upd.alloc) | (refine Upd0.tr ?_ (by with_reducible assumption)) | (refine Upd.setCell ?_ (fun h => absurd h (by first | exact Nat.lt_irrefl _ | (simp only []; omega))) _))); done); have k4 := Lib.hid (k3.out.to0 hv4); have b4 := Lib.hid (show w4.heap[w3.heap.size]? = some (.cells #[.string ⟨sSoa.nm.toArray⟩, .int .i64 6, .int .i64 9, .string ⟨sSoa.d.toArray⟩] 48 (0, 0)) from hu4.block (fun h => h) (by first | exact alloc_last _ _ _ rfl | exact blk_alloc (alloc_last _ _ _ rfl) | exact blk_alloc (blk_alloc (alloc_last _ _ _ rfl)))); obtain ⟨q40, q41, q42, q43⟩ := four' b4.out; have hl4 := blk_lt b4.out; have ne4 : ¬ w3.heap.size = w4.heap.size := (by omega); have nf4 : ¬ w4.heap.size = w3.heap.size := (by omega))
    | (go_at_call 38; have _t := tk2; (refine (lvP t _ (k4.out.to0 (by (repeat (first | (with_reducible exact Upd.refl _ _) | (with_reducible assumption) | (with_reducible apply Upd.drew) | (with_reducible apply Upd.alloc) | (refine Upd0.tr ?_ (by with_reducible assumption)) | (refine Upd.setCell ?_ (fun h => absurd h (by first | exact Nat.lt_irrefl _ | (simp only []; omega))) _))); done))).use ?_); rintro v w5 ⟨rfl, hu5, hc5⟩; have k5 := Lib.hid hc5; have b5 := Lib.hid (show w5.heap[w3.heap.size]? = some (.cells #[.string ⟨sSoa.nm.toArray⟩, .int .i64 6, .int .i64 9, .string ⟨sSoa.d.toArray⟩] 48 (0, 0)) from hu5.other (by first | exact b4.out | exact blk_alloc b4.out | exact blk_alloc (blk_alloc b4.out) | exact blk_alloc (blk_alloc (blk_alloc b4.out))) rfl); obtain ⟨q50, q51, q52, q53⟩ := four' b5.out; have hl5 := blk_lt b5.out; have ne5 : ¬ w3.heap.size = w5.heap.size := (by omega); have nf5 : ¬ w5.heap.size = w3.heap.size := (by omega); clear hc5 tk2 _t)
    | (go_at_call 37; have _t := tk3; (refine (lvG t _ (k5.out.to0 (by (repeat (first | (with_reducible exact Upd.refl _ _) | (with_reducible assumption) | (with_reducible apply Upd.drew) | (with_reducible apply Upd.alloc) | (refine Upd0.tr ?_ (by with_reducible assumption)) | (refine Upd.setCell ?_ (fun h => absurd h (by first | exact Nat.lt_irrefl _ | (simp only []; omega))) _))); done))).use ?_); rintro v w6 ⟨rfl, hu6⟩; have hv6 : Upd0 w5 w6 := (by (repeat (first | (with_reducible exact Upd.refl _ _) | (with_reducible assumption) | (with_reducible apply Upd.drew) | (with_reducible apply Upd.alloc) | (refine Upd0.tr ?_ (by with_reducible assumption)) | (refine Upd.setCell ?_ (fun h => absurd h (by first | exact Nat.lt_irrefl _ | (simp only []; omega))) _))); done); have k6 := Lib.hid (k5.out.to0 hv6); have b6 := Lib.hid (show w6.heap[w3.heap.size]? = some (.cells #[.string ⟨sSoa.nm.toArray⟩, .int .i64 6, .int .i64 9, .string ⟨sSoa.d.toArray⟩] 48 (0, 0)) from hv6.block (fun h => h) b5.out); obtain ⟨q60, q61, q62, q63⟩ := four' b6.out; have hl6 := blk_lt b6.out; have ne6 : ¬ w3.heap.size = w6.heap.size := (by omega); have nf6 : ¬ w6.heap.size = w3.heap.size := (by omega); clear tk3 _t)
    | (go_at_call 37; (refine (lvH t _ (k6.out.to0 (by (repeat (first | (with_reducible exact Upd.refl _ _) | (with_reducible assumption) | (with_reducible apply Upd.drew) | (with_reducible apply Upd.alloc) | (refine Upd0.tr ?_ (by with_reducible assumption)) | (refine Upd.setCell ?_ (fun h => absurd h (by first | exact Nat.lt_irrefl _ | (simp only []; omega))) _))); done))).use ?_); rintro v w7 ⟨rfl, hu7⟩; have hv7 : Upd0 w6 w7 := (by (repeat (first | (with_reducible exact Upd.refl _ _) | (with_reducible assumption) | (with_reducible apply Upd.drew) | (with_reducible apply Upd.alloc) | (refine Upd0.tr ?_ (by with_reducible assumption)) | (refine Upd.setCell ?_ (fun h => absurd h (by first | exact Nat.lt_irrefl _ | (simp only []; omega))) _))); done); have k7 := Lib.hid (k6.out.to0 hv7); have b7 := Lib.hid (show w7.heap[w3.heap.size]? = some (.cells #[.string ⟨sSoa.nm.toArray⟩, .int .i64 6, .int .i64 9, .string ⟨sSoa.d.toArray⟩] 48 (0, 0)) from hv7.block (fun h => h) b6.out); have r7 := Lib.hid (show w7.heap[w6.heap.size]? = some (.cells #[.string ⟨#[1, 97]⟩, .int .i64 6, .int .i64 1, .string ⟨sSoa.d.toArray⟩] 48 (0, 0)) from hu7.block (fun h => h) (by first | exact alloc_last _ _ _ rfl | exact blk_alloc (alloc_last _ _ _ rfl) | exact blk_alloc (blk_alloc (alloc_last _ _ _ rfl)))); obtain ⟨p70, p71, p72, p73⟩ := four' r7.out; have hm7 := blk_lt r7.out; have me7 : ¬ w6.heap.size = w7.heap.size := (by omega); have mf7 : ¬ w7.heap.size = w6.heap.size := (by omega); obtain ⟨q70, q71, q72, q73⟩ := four' b7.out; have hl7 := blk_lt b7.out; have ne7 : ¬ w3.heap.size = w7.heap.size := (by omega); have nf7 : ¬ w7.heap.size = w3.heap.size := (by omega))
    | (go_at_call 38; (refine (lvQ t _ (k7.out.to0 (by (repeat (first | (with_reducible exact Upd.refl _ _) | (with_reducible assumption) | (with_reducible apply Upd.drew) | (with_reducible apply Upd.alloc) | (refine Upd0.tr ?_ (by with_reducible assumption)) | (refine Upd.setCell ?_ (fun h => absurd h (by first | exact Nat.lt_irrefl _ | (simp only []; omega))) _))); done))).use ?_); rintro v w8 ⟨rfl, hu8, hc8⟩; have k8 := Lib.hid hc8; have b8 := Lib.hid (show w8.heap[w3.heap.size]? = some (.cells #[.string ⟨sSoa.nm.toArray⟩, .int .i64 6, .int .i64 9, .string ⟨sSoa.d.toArray⟩] 48 (0, 0)) from hu8.other (by first | exact b7.out | exact blk_alloc b7.out | exact blk_alloc (blk_alloc b7.out) | exact blk_alloc (blk_alloc (blk_alloc b7.out))) rfl); obtain ⟨q80, q81, q82, q83⟩ := four' b8.out; have hl8 := blk_lt b8.out; have ne8 : ¬ w3.heap.size = w8.heap.size := (by omega); have nf8 : ¬ w8.heap.size = w3.heap.size := (by omega); have r8 := Lib.hid (show w8.heap[w6.heap.size]? = some (.cells #[.string ⟨#[1, 97]⟩, .int .i64 6, .int .i64 1, .string ⟨sSoa.d.toArray⟩] 48 (0, 0)) from hu8.other (by first | exact r7.out | exact blk_alloc r7.out | exact blk_alloc (blk_alloc r7.out)) rfl); obtain ⟨p80, p81, p82, p83⟩ := four' r8.out; have hm8 := blk_lt r8.out; have me8 : ¬ w6.heap.size = w8.heap.size := (by omega); have mf8 : ¬ w8.heap.size = w6.heap.size := (by omega); clear hc8)
    | (go_at_call 40; (refine (lvL t _ k8.out).use ?_); rintro v w9 ⟨rfl, hu9⟩; have k9 := Lib.hid (k8.out.to0 hu9))
    | (go_at_call 39; (refine (lvD t _ k9.out).use ?_); rintro v wa ⟨rfl, hua⟩)
    | (with_reducible refine wp_serial (by kernel_rfl) (by kernel_rfl) (by (repeat (first | (with_reducible apply NoBad.then) | (with_reducible apply NoBad.inBlock) | (with_reducible exact NoBad.rets))); done) ?_) | fail)
  all_goals go_returns
  all_goals exact ⟨rfl, (by (repeat (first | (with_reducible exact Upd.refl _ _) | (with_reducible assumption) | (with_reducible apply Upd.drew) | (with_reducible apply Upd.alloc) | (refine Upd0.tr ?_ (by with_reducible assumption)) | (refine UpdP.fin ?_ (by with_reducible assumption)) | (refine UpdR.fin ?_ (by with_reducible assumption)) | (refine UpdS.fin ?_ (by with_reducible assumption)) | (refine Upd.setCell ?_ (fun h => absurd h (by first | exact Nat.lt_irrefl _ | (simp only []; omega))) _))); done)⟩
end Go.Proofs.Ytdjleplefbmjbaa
