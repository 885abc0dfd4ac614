/-
  Some answers that the document gives; clients, and whether two rows of them are the same.
-/
import Derived.Test.YtebnilkcpklnmaaCoE
import Derived.Test.YtebnilkcpklnmaaCoF
namespace Go.Proofs.Ytebnilkcpklnmaa
open Go.RowKit Go.Maps
set_option linter.unusedSimpArgs false
set_option linter.unusedVariables false
variable {B : Nat}
/-- an operation of a script -/
structure OpC where
  dO : Int
  q : Bs
  ty : Int
  c : Cl
  tk : Int
def OpC.val (o : OpC) : Value := .agg #[.int .i64 o.dO, .string ⟨o.q.toArray⟩, .int .i64 o.ty, .int .i64 o.c.node, .int .i64 o.c.id, .string ⟨o.c.nm.toArray⟩, .int .i64 o.tk]
def OpC.sh (o : OpC) : Bool := decide (o.q.length ≤ 300) && decide (o.c.nm.length ≤ 300)
theorem le300 (n : Nat) : decide ((n : Int) ≤ 300) = decide (n ≤ 300) := by rw [decide_eq_decide]; omega
set_option maxRecDepth 100000 in
theorem coshort_w (o : OpC) (w : World) : Calls Try.prog 16 #[o.val] w (Rets fun r w' => r = .bool o.sh ∧ Upd0 w w') := by
  obtain ⟨dO, q, ty, ⟨node, id, nm⟩, tk⟩ := o
  simp only [OpC.val, OpC.sh]
  rcases Nat.lt_or_ge 300 q.length with h1 | h1
  · go_enter Try.func16, Try.ntmps16
    go_wp2_with (first | (with_reducible refine wp_serial (by kernel_rfl) (by kernel_rfl) (by (repeat (first | (with_reducible apply NoBad.then) | (with_reducible apply NoBad.inBlock) | (with_reducible exact NoBad.rets))); done) ?_) | fail)
    all_goals go_returns
    all_goals exact ⟨by rw [decide_eq_false (Nat.not_le.2 h1)]; rfl, (by (repeat (first | (with_reducible exact Upd.refl _ _) | (with_reducible assumption) | (with_reducible apply Upd.drew) | (with_reducible apply Upd.alloc) | (refine Upd0.tr ?_ (by with_reducible assumption)) | (refine Upd.setCell ?_ (fun h => absurd h (by first | exact Nat.lt_irrefl _ | (simp only []; omega))) _))); done)⟩
  · go_enter Try.func16, Try.ntmps16
    go_wp2_with (first | (with_reducible refine wp_serial (by kernel_rfl) (by kernel_rfl) (by (repeat (first | (with_reducible apply NoBad.then) | (with_reducible apply NoBad.inBlock) | (with_reducible exact NoBad.rets))); done) ?_) | fail)
    all_goals go_returns
    all_goals exact ⟨by rw [decide_eq_true h1, Bool.true_and, ← le300]; rfl, (by (repeat (first | (with_reducible exact Upd.refl _ _) | (with_reducible assumption) | (with_reducible apply Upd.drew) | (with_reducible apply Upd.alloc) | (refine Upd0.tr ?_ (by with_reducible assumption)) | (refine Upd.setCell ?_ (fun h => absurd h (by first | exact Nat.lt_irrefl _ | (simp only []; omega))) _))); done)⟩
theorem client_w (c : Cl) (w : World) : Calls Try.prog 18 #[c.val] w (Rets fun r w' => r = c.val ∧ Upd0 w w') := by
  obtain ⟨node, id, nm⟩ := c
  simp only [Cl.val]
  go_enter Try.func18, Try.ntmps18
  go_wp2_with (first | (with_reducible refine wp_serial (by kernel_rfl) (by kernel_rfl) (by (repeat (first | (with_reducible apply NoBad.then) | (with_reducible apply NoBad.inBlock) | (with_reducible exact NoBad.rets))); done) ?_) | fail)
  all_goals go_returns
  all_goals exact ⟨rfl, (by (repeat (first | (with_reducible exact Upd.refl _ _) | (with_reducible assumption) | (with_reducible apply Upd.drew) | (with_reducible apply Upd.alloc) | (refine Upd0.tr ?_ (by with_reducible assumption)) | (refine Upd.setCell ?_ (fun h => absurd h (by first | exact Nat.lt_irrefl _ | (simp only []; omega))) _))); done)⟩
theorem client_e (node id : Int) (nm : Bs) (w : World) : Calls Try.prog 18 #[.agg #[.int .i64 node, .int .i64 id, .string ⟨nm.toArray⟩]] w (Rets fun r w' => r = .agg #[.int .i64 node, .int .i64 id, .string ⟨nm.toArray⟩] ∧ Upd0 w w') := client_w ⟨node, id, nm⟩ w
theorem cl_len (c : Cl) : c.cells.length = 3 := rfl
theorem done_no (t : Nat) (s : Tb) (n : Int) (hn : (Lit.int .i64 n).wf = true) (hb : doneB s n = false) (w : World) (h : Co B w t s) : Calls Try.prog 20 #[.pointer (some ⟨t, 0, none⟩), .int .i64 n] w (Rets fun r w' => r = .tuple #[.slice none 0 0, .bool false] ∧ Upd0 w w') := by
  obtain ⟨hs, bm, M, hc⟩ := h
  obtain ⟨c0, c1, c2, c3, c4⟩ := cell4 hc.blk
  have hat := atN_ids n M
  have hf := find_abs (x := n) hc.abs
  have hrun := look_run Try.underlying3 Try.underlying81 (zeroT w) hc.own hn
  unfold doneB at hb
  rw [hf] at hb
  cases hm : M.find? fun m => isK n m.k with
  | some m => rw [hm] at hb; cases hb
  | none =>
    rw [show atN (M.map TkM.ids) n = none by rw [hat, hm]; rfl] at hrun
    simp only [mkP] at hrun
    clear hc hat hm hf hb
    go_enter Try.func20, Try.ntmps20
    go_wp2_with (first | (with_reducible refine wp_serial (by kernel_rfl) (by kernel_rfl) (by (repeat (first | (with_reducible apply NoBad.then) | (with_reducible apply NoBad.inBlock) | (with_reducible exact NoBad.rets))); done) ?_) | fail)
    all_goals go_returns
    all_goals exact ⟨rfl, (by (repeat (first | (with_reducible exact Upd.refl _ _) | (with_reducible assumption) | (with_reducible apply Upd.drew) | (with_reducible apply Upd.alloc) | (refine Upd0.tr ?_ (by with_reducible assumption)) | (refine Upd.setCell ?_ (fun h => absurd h (by first | exact Nat.lt_irrefl _ | (simp only []; omega))) _))); done)⟩
set_option maxRecDepth 100000 in
theorem same_w (va vb : Value) (l : List Cl) (hl : l.length ≤ 100000) (w : World) (ha : w.ownsRow 0 42 3 va l.length (cls l)) (hb : w.ownsRow 0 36 3 vb l.length (cls l)) :
    Calls Try.prog 22 #[va, vb] w (Rets fun r w' => r = .bool true ∧ Upd0 w w') := by
  obtain ⟨ao, ca, rfl⟩ := ownsRow_slice ha
  obtain ⟨bo, cb, rfl⟩ := ownsRow_slice hb
  have hah := Lib.hid ha
  have hbh := Lib.hid hb
  clear ha hb
  go_enter Try.func22, Try.ntmps22
  go_wp2_with (first | (with_reducible refine wp_serial (by kernel_rfl) (by kernel_rfl) (by (repeat (first | (with_reducible apply NoBad.then) | (with_reducible apply NoBad.inBlock) | (with_reducible exact NoBad.rets))); done) ?_) | fail)
  go_loopw [5] (fun ii wr => ∃ j : Nat, j ≤ l.length ∧ ii = .int .i64 j ∧ Upd0 w wr) (fun ii _ => l.length - (intOf ii).toNat)
  case atStart => exact ⟨0, Nat.zero_le _, rfl, Upd.refl _ _⟩
  case round =>
    obtain ⟨j, hj, rfl, hu⟩ := hrel
    by_cases hlt : j < l.length
    · obtain ⟨g, rfl⟩ := ownsRow_some hah.out (by omega)
      obtain ⟨g', rfl⟩ := ownsRow_some hbh.out (by omega)
      obtain ⟨c, hc⟩ : ∃ c, l[j]? = some c := ⟨l[j], List.getElem?_eq_getElem hlt⟩
      have h1 := ownsRow_upd hah.out hu (fun _ _ h => h)
      have h2 := ownsRow_upd hbh.out hu (fun _ _ h => h)
      have e0 := elem_cell cl_len h1 hc 0 _ (by omega) rfl
      have e1 := elem_cell cl_len h1 hc 1 _ (by omega) rfl
      have e2 := elem_cell cl_len h1 hc 2 _ (by omega) rfl
      have f0 := elem_cell cl_len h2 hc 0 _ (by omega) rfl
      have f1 := elem_cell cl_len h2 hc 1 _ (by omega) rfl
      have f2 := elem_cell cl_len h2 hc 2 _ (by omega) rfl
      rw [Nat.add_zero] at e0 f0
      obtain ⟨node, id, nm⟩ := c
      clear h1 h2 hc
      go_wp2_with (first
        | (with_reducible refine wp_serial3_1 0 [] [0, 1, 2, 3, 4, 5, 6, 7] 8 [9] [_, _, _, _, _, _, _, _] _ [_] (by kernel_rfl) (by decide +kernel) rfl rfl rfl ⟨Nat.zero_le _, fun s hs => absurd hs List.not_mem_nil⟩ (by (repeat (first | (with_reducible apply NoBad.then) | (with_reducible apply NoBad.inBlock) | (with_reducible exact NoBad.rets))); done) ?_)
        | (go_at_call 18; (with_reducible refine (client_e node id nm _).use ?_); rintro v w2 ⟨rfl, hu2⟩)
        | (refine And.intro hu2.ext ?_)
        | (with_reducible refine wp_serial (by kernel_rfl) (by kernel_rfl) (by (repeat (first | (with_reducible apply NoBad.then) | (with_reducible apply NoBad.inBlock) | (with_reducible exact NoBad.rets))); done) ?_) | fail)
      go_roundw
      case rel => exact ⟨j + 1, by omega, by go_num, (by (repeat (first | (with_reducible exact Upd.refl _ _) | (with_reducible assumption) | (with_reducible apply Upd.drew) | (with_reducible apply Upd.alloc) | (refine Upd0.tr ?_ (by with_reducible assumption)) | (refine Upd.setCell ?_ (fun h => absurd h (by first | exact Nat.lt_irrefl _ | (simp only []; omega))) _))); done)⟩
      case measure => simp [intOf]; omega
    · go_wp2_with (first | (with_reducible refine wp_serial (by kernel_rfl) (by kernel_rfl) (by (repeat (first | (with_reducible apply NoBad.then) | (with_reducible apply NoBad.inBlock) | (with_reducible exact NoBad.rets))); done) ?_) | fail)
      all_goals go_returns
      all_goals exact ⟨rfl, (by (repeat (first | (with_reducible exact Upd.refl _ _) | (with_reducible assumption) | (with_reducible apply Upd.drew) | (with_reducible apply Upd.alloc) | (refine Upd0.tr ?_ (by with_reducible assumption)) | (refine Upd.setCell ?_ (fun h => absurd h (by first | exact Nat.lt_irrefl _ | (simp only []; omega))) _))); done)⟩
def t0 : Tb := ⟨2, 2, 0, []⟩
def t1 : Tb := ⟨2, 2, 1, [⟨1, [1, 97], 1, [⟨0, 5, []⟩]⟩]⟩
def t2 : Tb := ⟨2, 2, 1, [⟨1, [1, 97], 1, [⟨0, 5, []⟩, ⟨0, 6, []⟩]⟩]⟩
def t3 : Tb := ⟨2, 2, 2, [⟨1, [1, 97], 1, [⟨0, 5, []⟩, ⟨0, 6, []⟩]⟩, ⟨2, [1, 97], 2, [⟨0, 0, []⟩]⟩]⟩
def t4 : Tb := ⟨2, 2, 2, [⟨2, [1, 97], 2, [⟨0, 0, []⟩]⟩]⟩
theorem lv1 (t : Nat) (w : World) (h : Co B w t t0) : Calls Try.prog 17 #[.pointer (some ⟨t, 0, none⟩), .agg #[.string ⟨#[1, 97]⟩, .int .i64 1], .agg #[.int .i64 0, .int .i64 5, .string ⟨#[]⟩]] w (Rets fun r w' => r = .tuple #[.int .i64 1, .bool true, .int .i64 0] ∧ UpdP B w w' ∧ Co B w' t t1) :=
  ask_w t t0 [1, 97] 1 ⟨0, 5, []⟩ (by decide) (by decide) w h (by decide)
theorem lv2 (t : Nat) (w : World) (h : Co B w t t1) : Calls Try.prog 17 #[.pointer (some ⟨t, 0, none⟩), .agg #[.string ⟨#[1, 65]⟩, .int .i64 1], .agg #[.int .i64 0, .int .i64 6, .string ⟨#[]⟩]] w (Rets fun r w' => r = .tuple #[.int .i64 1, .bool false, .int .i64 0] ∧ UpdP B w w' ∧ Co B w' t t2) :=
  ask_w t t1 [1, 65] 1 ⟨0, 6, []⟩ (by decide) (by decide) w h (by decide)
theorem lv3 (t : Nat) (w : World) (h : Co B w t t2) : Calls Try.prog 17 #[.pointer (some ⟨t, 0, none⟩), .agg #[.string ⟨#[1, 97]⟩, .int .i64 1], .agg #[.int .i64 0, .int .i64 7, .string ⟨#[]⟩]] w (Rets fun r w' => r = .tuple #[.int .i64 0, .bool false, .int .i64 4] ∧ UpdP B w w' ∧ Co B w' t t2) :=
  ask_w t t2 [1, 97] 1 ⟨0, 7, []⟩ (by decide) (by decide) w h (by decide)
theorem lv4 (t : Nat) (w : World) (h : Co B w t t2) : Calls Try.prog 17 #[.pointer (some ⟨t, 0, none⟩), .agg #[.string ⟨#[1, 97]⟩, .int .i64 2], .agg #[.int .i64 0, .int .i64 0, .string ⟨#[]⟩]] w (Rets fun r w' => r = .tuple #[.int .i64 2, .bool true, .int .i64 0] ∧ UpdP B w w' ∧ Co B w' t t3) :=
  ask_w t t2 [1, 97] 2 ⟨0, 0, []⟩ (by decide) (by decide) w h (by decide)
theorem lv5 (t : Nat) (w : World) (h : Co B w t t3) : Calls Try.prog 17 #[.pointer (some ⟨t, 0, none⟩), .agg #[.string ⟨#[1, 98]⟩, .int .i64 2], .agg #[.int .i64 0, .int .i64 0, .string ⟨#[]⟩]] w (Rets fun r w' => r = .tuple #[.int .i64 0, .bool false, .int .i64 4] ∧ UpdP B w w' ∧ Co B w' t t3) :=
  ask_w t t3 [1, 98] 2 ⟨0, 0, []⟩ (by decide) (by decide) w h (by decide)
theorem lv6 (t : Nat) (w : World) (h : Co B w t t3) : Calls Try.prog 24 #[.pointer (some ⟨t, 0, none⟩), .int .i64 1] w (Rets fun r w' => r = .int .i64 2 ∧ Upd0 w w') := waits_w t t3 1 (by decide) w h
theorem lv7 (t : Nat) (w : World) (h : Co B w t t3) : Calls Try.prog 20 #[.pointer (some ⟨t, 0, none⟩), .int .i64 1] w (Rets fun r w' => ∃ v, r = .tuple #[v, .bool true] ∧ w'.ownsRow 0 42 3 v 2 (cls [⟨0, 5, []⟩, ⟨0, 6, []⟩]) ∧ UpdP B w w' ∧ Co B w' t t4) :=
  done_w t t3 1 (by decide) w h
theorem lv8 (t : Nat) (w : World) (h : Co B w t t4) : Calls Try.prog 20 #[.pointer (some ⟨t, 0, none⟩), .int .i64 1] w (Rets fun r w' => r = .tuple #[.slice none 0 0, .bool false] ∧ Upd0 w w') := done_no t t4 1 (by decide) (by decide) w h
theorem lv9 (t : Nat) (w : World) (h : Co B w t t4) : Calls Try.prog 23 #[.pointer (some ⟨t, 0, none⟩)] w (Rets fun r w' => r = .int .i64 1 ∧ Upd0 w w') := len_w t t4 w h
set_option maxRecDepth 100000 in
set_option maxHeartbeats 2000000 in
theorem colive_w (w : World) : Calls Try.prog 15 #[] w (Rets fun r w' => r = .bool true ∧ Upd0 w w') := by
  have tk1 : True := trivial
  have tk2 : True := trivial
  have tk3 : True := trivial
  have tk4 : True := trivial
  have tk5 : True := trivial
  have tk6 : True := trivial
  go_enter Try.func15, Try.ntmps15
  go_wp2_with (first
    | (go_at_call 14; have _t := tk1; (with_reducible refine (new_w (B := w.heap.size) 2 2 rfl rfl _ (Nat.le_refl _)).use ?_); rintro v w1 ⟨t, rfl, htl, hu1, hc1⟩; have k1 := Lib.hid hc1; clear hc1 tk1 _t)
    | (go_at_call 14; (with_reducible refine (new_no 0 1 rfl _).use ?_); rintro v w2 ⟨rfl, hu2⟩; have k2 := Lib.hid (k1.out.to0 hu2))
    | (go_at_call 17; have _t := tk2; (with_reducible refine (lv1 t _ k2.out).use ?_); rintro v w3 ⟨rfl, hu3, hc3⟩; have k3 := Lib.hid hc3; clear hc3 tk2 _t)
    | (go_at_call 17; have _t := tk3; (with_reducible refine (lv2 t _ k3.out).use ?_); rintro v w4 ⟨rfl, hu4, hc4⟩; have k4 := Lib.hid hc4; clear hc4 tk3 _t)
    | (go_at_call 17; have _t := tk4; (with_reducible refine (lv3 t _ k4.out).use ?_); rintro v w5 ⟨rfl, hu5, hc5⟩; have k5 := Lib.hid hc5; clear hc5 tk4 _t)
    | (go_at_call 17; have _t := tk5; (with_reducible refine (lv4 t _ k5.out).use ?_); rintro v w6 ⟨rfl, hu6, hc6⟩; have k6 := Lib.hid hc6; clear hc6 tk5 _t)
    | (go_at_call 17; (with_reducible refine (lv5 t _ k6.out).use ?_); rintro v w7 ⟨rfl, hu7, hc7⟩; have k7 := Lib.hid hc7; clear hc7)
    | (go_at_call 24; (with_reducible refine (lv6 t _ k7.out).use ?_); rintro v w8 ⟨rfl, hu8⟩; have k8 := Lib.hid (k7.out.to0 hu8))
    | (go_at_call 20; have _t := tk6; (with_reducible refine (lv7 t _ k8.out).use ?_); rintro v w9 ⟨vd, rfl, hr9, hu9, hc9⟩; have k9 := Lib.hid hc9; obtain ⟨ao, cap, rfl⟩ := ownsRow_slice hr9; obtain ⟨g, rfl⟩ := ownsRow_some hr9 (by omega); have r9 := Lib.hid hr9; clear hc9 hr9 tk6 _t)
    | (go_at_call 20; (with_reducible refine (lv8 t _ k9.out).use ?_); rintro v wa ⟨rfl, hua⟩; have ka := Lib.hid (k9.out.to0 hua); have hcell : wa.cell? ⟨g, 4, none⟩ = some (.int .i64 6) := ownsRow_cell (ownsRow_upd r9.out hua (fun _ _ h => h)) rfl rfl)
    | (go_at_call 23; (with_reducible refine (lv9 t _ ka.out).use ?_); rintro v wb ⟨rfl, hub⟩)
    | (with_reducible refine wp_serial (by kernel_rfl) (by kernel_rfl) (by (repeat (first | (with_reducible apply NoBad.then) | (with_reducible apply NoBad.inBlock) | (with_reducible exact NoBad.rets))); done) ?_) | fail)
  all_goals go_returns
  all_goals exact ⟨rfl, (by (repeat (first | (with_reducible exact Upd.refl _ _) | (with_reducible assumption) | (with_reducible apply Upd.drew) | (with_reducible apply Upd.alloc) | (refine Upd0.tr ?_ (by with_reducible assumption)) | (refine UpdP.fin ?_ (by with_reducible assumption)) | (refine UpdR.fin ?_ (by with_reducible assumption)) | (refine Upd.setCell ?_ (fun h => absurd h (by first | exact Nat.lt_irrefl _ | (simp only []; omega))) _))); done)⟩
end Go.Proofs.Ytebnilkcpklnmaa
