/-
  Stores of denials: Get.
-/
import Derived.Test.YtdjleplefbmjbaaDnE
import Derived.Test.YtdjleplefbmjbaaDnD
import Derived.Test.YtdjleplefbmjbaaSer7
namespace Go.Proofs.Ytdjleplefbmjbaa
open Go.RowKit Go.Shelf
set_option linter.unusedSimpArgs false
set_option linter.unusedVariables false
attribute [local go_sem] Oper.semAt_some
variable {B : Nat}
def hitE (F : Bs) (ty now : Int) (x : Ent) : Bool := decide (x.nm = F) && ((decide (x.kd = 0) || decide (x.kd = ty)) && decide (now < x.en))
def timeOk (now : Int) : Bool := decide (0 ≤ now) && decide (now ≤ 1099511627776)
def getF (es : List Ent) (F : Bs) (ty now : Int) : Option (Nat × Ent) := (backN es es.length).find? fun p => hitE F ty now p.2
def getV (k : Int) (nm : Bs) (st tl : Int) (d : Bs) (b : Bool) : Value := .tuple #[.int .i64 k, .agg #[.string ⟨nm.toArray⟩, .int .i64 st, .int .i64 tl, .string ⟨d.toArray⟩], .bool b]
def getR (now : Int) : Option (Nat × Ent) → Value
  | some p => getV p.2.k p.2.sn p.2.st (wrap64 (p.2.en - now)) p.2.sd true
  | none => getV 0 [] 0 0 [] false
def recZ : Value := .agg #[.string ⟨#[]⟩, .int .i64 0, .int .i64 0, .string ⟨#[]⟩]
theorem res_get {tmps : Array Value} {b1 b2 b3 : Nat} (h6 : tmps.getD 6 undef = .pointer (some ⟨b1, 0, none⟩)) (h7 : tmps.getD 7 undef = .pointer (some ⟨b2, 0, none⟩)) (h8 : tmps.getD 8 undef = .pointer (some ⟨b3, 0, none⟩)) {W : World} {k : Int} {nm : Bs} {st tl : Int} {d : Bs} {b : Bool}
    (r1 : W.heap[b1]? = some (.cells #[.int .i64 k] 3 (0, 0))) (r2 : W.heap[b2]? = some (.cells #[.string ⟨nm.toArray⟩, .int .i64 st, .int .i64 tl, .string ⟨d.toArray⟩] 48 (0, 0))) (r3 : W.heap[b3]? = some (.cells #[.bool b] 4 (0, 0))) :
    (results Try.f37 tmps).run Try.prog W = .ok (getV k nm st tl d b) W := by
  have c0 : W.cell? ⟨b1, 0, none⟩ = some (.int .i64 k) := by rw [blk_cell r1]; rfl
  have d0 : W.cell? ⟨b3, 0, none⟩ = some (.bool b) := by rw [blk_cell r3]; rfl
  obtain ⟨e0, e1, e2, e3⟩ := four' r2
  have g6 : tmps[6]?.getD undef = .pointer (some ⟨b1, 0, none⟩) := by rw [← Array.getD_eq_getD_getElem?]; exact h6
  have g7 : tmps[7]?.getD undef = .pointer (some ⟨b2, 0, none⟩) := by rw [← Array.getD_eq_getD_getElem?]; exact h7
  have g8 : tmps[8]?.getD undef = .pointer (some ⟨b3, 0, none⟩) := by rw [← Array.getD_eq_getD_getElem?]; exact h8
  simp [results, Try.results37, g6, g7, g8, go_sem, c0, d0, e0, e1, e2, e3, getV]
set_option maxRecDepth 100000 in
theorem dget_bad (p : Option Addr) (q : Bs) (ty now : Int) (hb : p = none ∨ timeOk now = false) (w : World) :
    Calls Try.prog 37 #[.pointer p, .agg #[.string ⟨q.toArray⟩, .int .i64 ty], .int .i64 now] w (Rets fun r w' => r = getV 0 [] 0 0 [] false ∧ Upd0 w w') := by
  cases p with
  | none =>
    go_enter Try.func37, Try.ntmps37
    go_wp2_with (first | (with_reducible refine wp_serial (by kernel_rfl) (by kernel_rfl) (by (repeat (first | (with_reducible apply NoBad.then) | (with_reducible apply NoBad.inBlock) | (with_reducible exact NoBad.rets))); done) ?_) | fail)
    refine bodyPost_ret (res_get rfl rfl rfl (blk_alloc (blk_alloc (alloc_last _ _ _ (by simp)))) (blk_alloc (alloc_last _ _ _ (by simp))) (alloc_last _ _ _ (by simp))) rfl ⟨rfl, (by (repeat (first | (with_reducible exact Upd.refl _ _) | (with_reducible assumption) | (with_reducible apply Upd.drew) | (with_reducible apply Upd.alloc) | (refine Upd0.tr ?_ (by with_reducible assumption)) | (refine Upd.setCell ?_ (fun h => absurd h (by first | exact Nat.lt_irrefl _ | (simp only []; omega))) _))); done)⟩
  | some a =>
    have h1 := Lib.hid (show (decide (0 ≤ now) && decide (now ≤ 1099511627776)) = false from hb.resolve_left (by simp))
    clear hb
    go_enter Try.func37, Try.ntmps37
    go_wp2_with (first
      | (go_at_call 59; (with_reducible refine (dwithin_w now 0 1099511627776 _).use ?_); rintro v w1 ⟨rfl, rfl⟩; rw [h1.out])
      | (with_reducible refine wp_serial (by kernel_rfl) (by kernel_rfl) (by (repeat (first | (with_reducible apply NoBad.then) | (with_reducible apply NoBad.inBlock) | (with_reducible exact NoBad.rets))); done) ?_) | fail)
    refine bodyPost_ret (res_get rfl rfl rfl (blk_alloc (blk_alloc (alloc_last _ _ _ (by simp)))) (blk_alloc (alloc_last _ _ _ (by simp))) (alloc_last _ _ _ (by simp))) rfl ⟨rfl, (by (repeat (first | (with_reducible exact Upd.refl _ _) | (with_reducible assumption) | (with_reducible apply Upd.drew) | (with_reducible apply Upd.alloc) | (refine Upd0.tr ?_ (by with_reducible assumption)) | (refine Upd.setCell ?_ (fun h => absurd h (by first | exact Nat.lt_irrefl _ | (simp only []; omega))) _))); done)⟩
theorem cell8s {w : World} {b : Nat} {a0 a1 a2 a3 a4 a5 a6 a7 : Value} {t : TypeId} (h : w.heap[b]? = some (.cells #[a0, a1, a2, a3, a4, a5, a6, a7] t (0, 0))) : w.cell? ⟨b, 0, none⟩ = some a0 ∧ w.cell? ⟨b, 1, none⟩ = some a1 ∧ w.cell? ⟨b, 2, none⟩ = some a2 ∧ w.cell? ⟨b, 3, none⟩ = some a3 ∧ w.cell? ⟨b, 4, none⟩ = some a4 ∧ w.cell? ⟨b, 5, none⟩ = some a5 ∧ w.cell? ⟨b, 6, none⟩ = some a6 ∧ w.cell? ⟨b, 7, none⟩ = some a7 ∧ ∀ i, w.frozen? ⟨b, i, none⟩ = false := ⟨by rw [blk_cell h]; rfl, by rw [blk_cell h]; rfl, by rw [blk_cell h]; rfl, by rw [blk_cell h]; rfl, by rw [blk_cell h]; rfl, by rw [blk_cell h]; rfl, by rw [blk_cell h]; rfl, by rw [blk_cell h]; rfl, fun i => blk_frz h i⟩
/-- the world of a Get between its rounds: its own five variables, the folded name, what it reads -/
structure GetI (w : World) (q : Bs) (ty now : Int) (F : Bs) (bF cb : Nat) (v : Value) (es : List Ent) (W : World) : Prop where
  upd : Upd0 w W
  b0 : W.heap[w.heap.size]? = some (.cells #[.string ⟨q.toArray⟩, .int .i64 ty] 46 (0, 0))
  b1 : W.heap[w.heap.size + 1]? = some (.cells #[.int .i64 now] 3 (0, 0))
  b2 : W.heap[w.heap.size + 2]? = some (.cells #[.int .i64 0] 3 (0, 0))
  b3 : W.heap[w.heap.size + 3]? = some (.cells #[.string ⟨#[]⟩, .int .i64 0, .int .i64 0, .string ⟨#[]⟩] 48 (0, 0))
  b4 : W.heap[w.heap.size + 4]? = some (.cells #[.bool false] 4 (0, 0))
  bf : W.heap[bF]? = some (.cells #[.string ⟨F.toArray⟩] 22 (0, 0))
  keep : KeepE w cb v es W
/-- the world of a Get that has found one -/
structure GetX (w : World) (now : Int) (x : Ent) (W : World) : Prop where
  upd : Upd0 w W
  b2 : W.heap[w.heap.size + 2]? = some (.cells #[.int .i64 x.k] 3 (0, 0))
  b3 : W.heap[w.heap.size + 3]? = some (.cells #[.string ⟨x.sn.toArray⟩, .int .i64 x.st, .int .i64 (wrap64 (x.en - now)), .string ⟨x.sd.toArray⟩] 48 (0, 0))
  b4 : W.heap[w.heap.size + 4]? = some (.cells #[.bool true] 4 (0, 0))
def GetM (w : World) (q : Bs) (ty now : Int) (F : Bs) (bF cb : Nat) (v : Value) (es : List Ent) (pre : List (Nat × Ent)) (W : World) : Prop := GetI w q ty now F bF cb v es W ∧ ∀ p ∈ pre, hitE F ty now p.2 = false
def GetR (w : World) (ty now : Int) (F : Bs) (es : List Ent) (c : Code) (W : World) : Prop := c = .ret ∧ ∃ p, getF es F ty now = some p ∧ GetX w now p.2 W
theorem GetI.up {w : World} {q : Bs} {ty now : Int} {F : Bs} {bF cb : Nat} {v : Value} {es : List Ent} {W W' : World} {S : Nat → Prop} (h : GetI w q ty now F bF cb v es W) (k : Upd S W W') (hS : ∀ n, S n → w.heap.size + 5 ≤ n ∧ n ≠ bF ∧ n ≠ cb) (hv : ∀ g, v.ownBlock = some g → g < w.heap.size) : GetI w q ty now F bF cb v es W' := by
  have hno : ∀ n, n < w.heap.size + 5 → ¬ S n := fun n hn hs => by have := (hS n hs).1; omega
  refine ⟨Upd.trans (S := fun _ => False) h.upd k fun n hn hs => hno n (by omega) hs, k.block (hno _ (by omega)) h.b0, k.block (hno _ (by omega)) h.b1, k.block (hno _ (by omega)) h.b2, k.block (hno _ (by omega)) h.b3, k.block (hno _ (by omega)) h.b4, k.block (fun hs => (hS _ hs).2.1 rfl) h.bf, k.block (fun hs => (hS _ hs).2.2 rfl) h.keep.1, h.keep.2.upd k fun g hg hs => hno g (by have := hv g hg; omega) hs⟩
theorem GetX.up {w : World} {now : Int} {x : Ent} {W W' : World} {S : Nat → Prop} (h : GetX w now x W) (k : Upd S W W') (hS : ∀ n, S n → w.heap.size + 5 ≤ n) : GetX w now x W' := by
  have hno : ∀ n, n < w.heap.size + 5 → ¬ S n := fun n hn hs => by have := hS n hs; omega
  exact ⟨Upd.trans (S := fun _ => False) h.upd k fun n hn hs => hno n (by omega) hs, k.block (hno _ (by omega)) h.b2, k.block (hno _ (by omega)) h.b3, k.block (hno _ (by omega)) h.b4⟩
theorem get_more {w W : World} {q : Bs} {ty now : Int} {F : Bs} {bF cb d : Nat} {v : Value} {es : List Ent} {pre : List (Nat × Ent)} {p : Nat × Ent} (hI : GetI w q ty now F bF cb v es W) (hno : ∀ p ∈ pre, hitE F ty now p.2 = false) (hx : hitE F ty now p.2 = false) :
    Kept3 cb d W W ∧ GetM w q ty now F bF cb v es (pre ++ [p]) W := by
  refine ⟨⟨Nat.le_refl _, rfl, rfl, rfl⟩, hI, fun p' hp => ?_⟩
  rcases List.mem_append.1 hp with h | h
  · exact hno p' h
  · rw [List.mem_singleton.1 h]; exact hx
theorem getF_hit {es : List Ent} {F : Bs} {ty now : Int} {pre : List (Nat × Ent)} {p : Nat × Ent} (hpx : (pre ++ [p]) <+: backN es es.length) (hno : ∀ p ∈ pre, hitE F ty now p.2 = false) (hx : hitE F ty now p.2 = true) : getF es F ty now = some p := by
  obtain ⟨r, hr⟩ := hpx
  rw [getF, ← hr, List.append_assoc, List.find?_append, List.find?_eq_none.2 (fun x h => by simp [hno x h])]
  simp [hx]
theorem get_hit {w Wb W X1 X2 X3 X4 X5 X6 X7 : World} {q : Bs} {ty now : Int} {F : Bs} {bF : Nat} {v : Value} {es : List Ent} {i d s e : Nat} {nm sn sd : Bs} {kd k st tl en : Int} (hI : GetI w q ty now F bF (bF + 1) v es W) (h4 : w.heap.size + 4 < bF) (hlt : bF + 2 + 1 < Wb.heap.size) (hd : d = bF + 2)
    (he : W.heap[Wb.heap.size]? = some (.cells #[.string ⟨nm.toArray⟩, .int .i64 kd, .int .i64 k, .string ⟨sn.toArray⟩, .int .i64 st, .int .i64 tl, .string ⟨sd.toArray⟩, .int .i64 en] 100 (0, 0)))
    (hg : getF es F ty now = some (i, ⟨nm, kd, k, sn, st, tl, sd, en⟩)) (hs : s = w.heap.size) (hee : e = Wb.heap.size)
    (h1 : W.setCell ⟨e, 5, none⟩ (.int .i64 (wrap64 (en - now))) = X1) (h2 : X1.setCell ⟨s + 1 + 1, 0, none⟩ (.int .i64 k) = X2) (h3 : X2.setCell ⟨s + 1 + 1 + 1, 0, none⟩ (.string ⟨sn.toArray⟩) = X3) (h4' : X3.setCell ⟨s + 1 + 1 + 1, 1, none⟩ (.int .i64 st) = X4) (h5 : X4.setCell ⟨s + 1 + 1 + 1, 2, none⟩ (.int .i64 (wrap64 (en - now))) = X5) (h6 : X5.setCell ⟨s + 1 + 1 + 1, 3, none⟩ (.string ⟨sd.toArray⟩) = X6) (h7 : X6.setCell ⟨s + 1 + 1 + 1 + 1, 0, none⟩ (.bool true) = X7) :
    Kept3 (bF + 1) d W X7.drew ∧ GetR w ty now F es .ret X7.drew := by
  have n1 : ∀ b, b ≠ e → X1.heap[b]? = W.heap[b]? := fun b hb => by rw [← h1]; exact blk_set_other hb _ _
  have n2 : ∀ b, b ≠ s + 1 + 1 → X2.heap[b]? = X1.heap[b]? := fun b hb => by rw [← h2]; exact blk_set_other hb _ _
  have n3 : ∀ b, b ≠ s + 1 + 1 + 1 → X3.heap[b]? = X2.heap[b]? := fun b hb => by rw [← h3]; exact blk_set_other hb _ _
  have n4 : ∀ b, b ≠ s + 1 + 1 + 1 → X4.heap[b]? = X3.heap[b]? := fun b hb => by rw [← h4']; exact blk_set_other hb _ _
  have n5 : ∀ b, b ≠ s + 1 + 1 + 1 → X5.heap[b]? = X4.heap[b]? := fun b hb => by rw [← h5]; exact blk_set_other hb _ _
  have n6 : ∀ b, b ≠ s + 1 + 1 + 1 → X6.heap[b]? = X5.heap[b]? := fun b hb => by rw [← h6]; exact blk_set_other hb _ _
  have n7 : ∀ b, b ≠ s + 1 + 1 + 1 + 1 → X7.heap[b]? = X6.heap[b]? := fun b hb => by rw [← h7]; exact blk_set_other hb _ _
  have hu : Upd (fun n => w.heap.size ≤ n) W X7 := by
    rw [← h7, ← h6, ← h5, ← h4', ← h3, ← h2, ← h1]
    exact (((((((Upd.refl _ W).setCell (by simp only []; omega) _).setCell (by simp only []; omega) _).setCell (by simp only []; omega) _).setCell (by simp only []; omega) _).setCell (by simp only []; omega) _).setCell (by simp only []; omega) _).setCell (by simp only []; omega) _
  have g2 : X2.heap[s + 1 + 1]? = some (.cells #[.int .i64 k] 3 (0, 0)) := by
    rw [← h2]; exact blk_set (c := #[.int .i64 0]) (by rw [n1 _ (by omega), hs]; exact hI.b2) 0 _
  have q2 : X2.heap[s + 1 + 1 + 1]? = W.heap[w.heap.size + 3]? := by rw [n2 _ (by omega), n1 _ (by omega), hs]
  have q3 : X3.heap[s + 1 + 1 + 1]? = some (.cells #[.string ⟨sn.toArray⟩, .int .i64 0, .int .i64 0, .string ⟨#[]⟩] 48 (0, 0)) := by
    rw [← h3]; exact blk_set (c := #[.string ⟨#[]⟩, .int .i64 0, .int .i64 0, .string ⟨#[]⟩]) (by rw [q2]; exact hI.b3) 0 _
  have q4 : X4.heap[s + 1 + 1 + 1]? = some (.cells #[.string ⟨sn.toArray⟩, .int .i64 st, .int .i64 0, .string ⟨#[]⟩] 48 (0, 0)) := by
    rw [← h4']; exact blk_set (c := #[.string ⟨sn.toArray⟩, .int .i64 0, .int .i64 0, .string ⟨#[]⟩]) q3 1 _
  have q5 : X5.heap[s + 1 + 1 + 1]? = some (.cells #[.string ⟨sn.toArray⟩, .int .i64 st, .int .i64 (wrap64 (en - now)), .string ⟨#[]⟩] 48 (0, 0)) := by
    rw [← h5]; exact blk_set (c := #[.string ⟨sn.toArray⟩, .int .i64 st, .int .i64 0, .string ⟨#[]⟩]) q4 2 _
  have q6 : X6.heap[s + 1 + 1 + 1]? = some (.cells #[.string ⟨sn.toArray⟩, .int .i64 st, .int .i64 (wrap64 (en - now)), .string ⟨sd.toArray⟩] 48 (0, 0)) := by
    rw [← h6]; exact blk_set (c := #[.string ⟨sn.toArray⟩, .int .i64 st, .int .i64 (wrap64 (en - now)), .string ⟨#[]⟩]) q5 3 _
  have g7 : X7.heap[s + 1 + 1 + 1 + 1]? = some (.cells #[.bool true] 4 (0, 0)) := by
    rw [← h7]; exact blk_set (c := #[.bool false]) (by rw [n6 _ (by omega), n5 _ (by omega), n4 _ (by omega), n3 _ (by omega), n2 _ (by omega), n1 _ (by omega), hs]; exact hI.b4) 0 _
  have ho : ∀ b, b ≠ e → w.heap.size + 4 < b → X7.heap[b]? = W.heap[b]? := fun b hb hb2 => by
    rw [n7 _ (by omega), n6 _ (by omega), n5 _ (by omega), n4 _ (by omega), n3 _ (by omega), n2 _ (by omega), n1 _ hb]
  refine ⟨⟨hu.size, ho _ (by omega) (by omega), ho _ (by omega) (by omega), ho _ (by omega) (by omega)⟩, rfl, _, hg, (Upd.trans (S := fun _ => False) hI.upd hu fun n hn hs => by omega).drew, ?_, ?_, ?_⟩
  · rw [← hs]; exact ((n7 _ (by omega)).trans ((n6 _ (by omega)).trans ((n5 _ (by omega)).trans ((n4 _ (by omega)).trans (n3 _ (by omega)))))).trans g2
  · rw [← hs]; exact (n7 _ (by omega)).trans q6
  · rw [← hs]; exact g7
theorem get_zero {w W X1 X2 X3 X4 X5 X6 : World} {q : Bs} {ty now : Int} {F : Bs} {bF cb s : Nat} {v : Value} {es : List Ent} (hI : GetI w q ty now F bF cb v es W) (hs : s = w.heap.size)
    (h1 : W.setCell ⟨s + 1 + 1, 0, none⟩ (.int .i64 0) = X1) (h2 : X1.setCell ⟨s + 1 + 1 + 1, 0, none⟩ (.string ⟨#[]⟩) = X2) (h3 : X2.setCell ⟨s + 1 + 1 + 1, 1, none⟩ (.int .i64 0) = X3) (h4 : X3.setCell ⟨s + 1 + 1 + 1, 2, none⟩ (.int .i64 0) = X4) (h5 : X4.setCell ⟨s + 1 + 1 + 1, 3, none⟩ (.string ⟨#[]⟩) = X5) (h6 : X5.setCell ⟨s + 1 + 1 + 1 + 1, 0, none⟩ (.bool false) = X6) :
    Upd (fun n => n = w.heap.size + 2 ∨ n = w.heap.size + 3 ∨ n = w.heap.size + 4) W X6 ∧ X6.heap[s + 1 + 1]? = some (.cells #[.int .i64 0] 3 (0, 0)) ∧ X6.heap[s + 1 + 1 + 1]? = some (.cells #[.string ⟨#[]⟩, .int .i64 0, .int .i64 0, .string ⟨#[]⟩] 48 (0, 0)) ∧ X6.heap[s + 1 + 1 + 1 + 1]? = some (.cells #[.bool false] 4 (0, 0)) := by
  have n1 : ∀ b, b ≠ s + 1 + 1 → X1.heap[b]? = W.heap[b]? := fun b hb => by rw [← h1]; exact blk_set_other hb _ _
  have n2 : ∀ b, b ≠ s + 1 + 1 + 1 → X2.heap[b]? = X1.heap[b]? := fun b hb => by rw [← h2]; exact blk_set_other hb _ _
  have n3 : ∀ b, b ≠ s + 1 + 1 + 1 → X3.heap[b]? = X2.heap[b]? := fun b hb => by rw [← h3]; exact blk_set_other hb _ _
  have n4 : ∀ b, b ≠ s + 1 + 1 + 1 → X4.heap[b]? = X3.heap[b]? := fun b hb => by rw [← h4]; exact blk_set_other hb _ _
  have n5 : ∀ b, b ≠ s + 1 + 1 + 1 → X5.heap[b]? = X4.heap[b]? := fun b hb => by rw [← h5]; exact blk_set_other hb _ _
  have n6 : ∀ b, b ≠ s + 1 + 1 + 1 + 1 → X6.heap[b]? = X5.heap[b]? := fun b hb => by rw [← h6]; exact blk_set_other hb _ _
  have hu : Upd (fun n => n = w.heap.size + 2 ∨ n = w.heap.size + 3 ∨ n = w.heap.size + 4) W X6 := by
    rw [← h6, ← h5, ← h4, ← h3, ← h2, ← h1]
    exact ((((((Upd.refl _ W).setCell (by simp only []; omega) _).setCell (by simp only []; omega) _).setCell (by simp only []; omega) _).setCell (by simp only []; omega) _).setCell (by simp only []; omega) _).setCell (by simp only []; omega) _
  have g1 : X1.heap[s + 1 + 1]? = some (.cells #[.int .i64 0] 3 (0, 0)) := by
    rw [← h1]; exact blk_set (c := #[.int .i64 0]) (by rw [hs]; exact hI.b2) 0 _
  have q1 : X1.heap[s + 1 + 1 + 1]? = some (.cells #[.string ⟨#[]⟩, .int .i64 0, .int .i64 0, .string ⟨#[]⟩] 48 (0, 0)) := by rw [n1 _ (by omega), hs]; exact hI.b3
  have q2 : X2.heap[s + 1 + 1 + 1]? = some (.cells #[.string ⟨#[]⟩, .int .i64 0, .int .i64 0, .string ⟨#[]⟩] 48 (0, 0)) := by
    rw [← h2]; exact blk_set (c := #[.string ⟨#[]⟩, .int .i64 0, .int .i64 0, .string ⟨#[]⟩]) q1 0 _
  have q3 : X3.heap[s + 1 + 1 + 1]? = some (.cells #[.string ⟨#[]⟩, .int .i64 0, .int .i64 0, .string ⟨#[]⟩] 48 (0, 0)) := by
    rw [← h3]; exact blk_set (c := #[.string ⟨#[]⟩, .int .i64 0, .int .i64 0, .string ⟨#[]⟩]) q2 1 _
  have q4 : X4.heap[s + 1 + 1 + 1]? = some (.cells #[.string ⟨#[]⟩, .int .i64 0, .int .i64 0, .string ⟨#[]⟩] 48 (0, 0)) := by
    rw [← h4]; exact blk_set (c := #[.string ⟨#[]⟩, .int .i64 0, .int .i64 0, .string ⟨#[]⟩]) q3 2 _
  have q5 : X5.heap[s + 1 + 1 + 1]? = some (.cells #[.string ⟨#[]⟩, .int .i64 0, .int .i64 0, .string ⟨#[]⟩] 48 (0, 0)) := by
    rw [← h5]; exact blk_set (c := #[.string ⟨#[]⟩, .int .i64 0, .int .i64 0, .string ⟨#[]⟩]) q4 3 _
  refine ⟨hu, ?_, (n6 _ (by omega)).trans q5, ?_⟩
  · exact ((n6 _ (by omega)).trans ((n5 _ (by omega)).trans ((n4 _ (by omega)).trans ((n3 _ (by omega)).trans (n2 _ (by omega)))))).trans g1
  · rw [← h6]; exact blk_set (c := #[.bool false]) (by rw [n5 _ (by omega), n4 _ (by omega), n3 _ (by omega), n2 _ (by omega), n1 _ (by omega), hs]; exact hI.b4) 0 _
theorem getF_no {es : List Ent} {F : Bs} {ty now : Int} (hno : ∀ p ∈ backN es es.length, hitE F ty now p.2 = false) : getF es F ty now = none := List.find?_eq_none.2 (fun x h => by simp [hno x h])
set_option maxRecDepth 100000 in
set_option maxHeartbeats 2000000 in
theorem dget_in (t : Nat) (room most : Int) (es : List Ent) (ao : Option Addr) (cap : Nat) (q : Bs) (ty now : Int) (hq : q.length ≤ 70000) (hok : timeOk now = true) (w : World) (h : StoIs B w t room most es (.slice ao es.length cap)) (hel : es.length ≤ 200) :
    CallsIn Fence.wide 4 Try.prog 37 #[.pointer (some ⟨t, 0, none⟩), .agg #[.string ⟨q.toArray⟩, .int .i64 ty], .int .i64 now] w fun e w' =>
      ∃ r, e = .returned r ∧ r = getR now (getF es (fold q) ty now) ∧ Upd0 w w' := by
  have h1 := Lib.hid (show (decide (0 ≤ now) && decide (now ≤ 1099511627776)) = true from hok)
  obtain ⟨F, hF⟩ : ∃ F, fold q = F := ⟨_, rfl⟩
  rw [hF]
  have hFh := Lib.hid hF
  obtain ⟨c0, c1, c2, c3⟩ := cell3s h.blk
  have htl := blk_lt h.blk
  have hh := Lib.hid h
  clear hF h hok
  refine callsIn_of_wp_marks Try.func37 rfl trivial ?_ rfl
  simp only [Try.ntmps37, List.size_toArray, List.length_cons, List.length_nil, Nat.reduceAdd, Nat.reduceSub, Array.replicate_succ, Array.replicate_zero, List.push_toArray, List.append_toArray, List.nil_append, List.cons_append]
  gi_wp2_with (first
    | (refine ⟨trivial, ?_⟩; gi_at_call 59; refine (callsIn_wide.2 (dwithin_w now 0 1099511627776 _)).mono ?_; intro e1 w1 he1; cases e1 <;> first | exact he1.elim | skip; obtain ⟨rfl, rfl⟩ := he1; rw [h1.out])
    | (refine ⟨trivial, ?_⟩; gi_at_call 24; refine (callsIn_wide.2 (fold_w q hq _)).mono ?_; intro e2 w2 he2; cases e2 <;> first | exact he2.elim | skip; obtain ⟨rfl, hu2⟩ := he2; rw [hFh.out]; have hv2 : Upd0 w w2 := (by (repeat (first | (with_reducible exact Upd.refl _ _) | (with_reducible assumption) | (with_reducible apply Upd.drew) | (with_reducible apply Upd.alloc) | (refine Upd0.tr ?_ (by with_reducible assumption)) | (refine Upd.setCell ?_ (fun h => absurd h (by first | exact Nat.lt_irrefl _ | (simp only []; omega))) _))); done); obtain ⟨g0, g1, g2, g3⟩ := cell3s (hv2.block (fun h => h) hh.out.blk); have htl2 : t < w2.heap.size := blk_lt (hv2.block (fun h => h) hh.out.blk); have z0 := Lib.hid (hu2.block (fun h => h) (blk_alloc (blk_alloc (blk_alloc (blk_alloc (alloc_last w _ w.heap.size rfl)))))); have z1 := Lib.hid (hu2.block (fun h => h) (blk_alloc (blk_alloc (blk_alloc (alloc_last _ _ (w.heap.size + 1) (by simp)))))); have z2 := Lib.hid (hu2.block (fun h => h) (blk_alloc (blk_alloc (alloc_last _ _ (w.heap.size + 2) (by simp))))); have z3 := Lib.hid (hu2.block (fun h => h) (blk_alloc (alloc_last _ _ (w.heap.size + 3) (by simp)))); have z4 := Lib.hid (hu2.block (fun h => h) (alloc_last _ _ (w.heap.size + 4) (by simp))))
    | (refine ⟨trivial, ?_⟩; gi_at_call 60; refine (backward_any _ _ _ _).mono ?_; rintro e w' ⟨rfl, rfl⟩))
  obtain ⟨W0, hW0⟩ : ∃ W0, ((w2.alloc (.cells #[.string ⟨F.toArray⟩] 22)).alloc (.cells #[.slice ao es.length cap] 91)) = W0 := ⟨_, rfl⟩
  have hz : W0.heap.size = w2.heap.size + 2 := by rw [← hW0]; simp
  have hz4 : w.heap.size + 4 < w2.heap.size := blk_lt z4.out
  have hv : ∀ g, (Value.slice ao es.length cap).ownBlock = some g → g < w.heap.size := fun g hg => hh.out.row.lt hg
  have hI0 : GetI w q ty now F w2.heap.size (w2.heap.size + 1) (.slice ao es.length cap) es W0 := by
    have hu : Upd0 w2 W0 := by rw [← hW0]; exact ((Upd.refl _ w2).alloc _).alloc _
    have hv2 : Upd0 w w2 := (by (repeat (first | (with_reducible exact Upd.refl _ _) | (with_reducible assumption) | (with_reducible apply Upd.drew) | (with_reducible apply Upd.alloc) | (refine Upd0.tr ?_ (by with_reducible assumption)) | (refine Upd.setCell ?_ (fun h => absurd h (by first | exact Nat.lt_irrefl _ | (simp only []; omega))) _))); done)
    refine ⟨Upd0.tr hv2 hu, hu.block (fun h => h) z0.out, hu.block (fun h => h) z1.out, hu.block (fun h => h) z2.out, hu.block (fun h => h) z3.out, hu.block (fun h => h) z4.out, ?_, ?_, (hh.out.row.upd0 hv2).upd0 hu⟩
    · rw [← hW0]; exact blk_alloc (alloc_last _ _ _ rfl)
    · rw [← hW0]; exact alloc_last _ _ _ (by simp)
  rw [hW0]
  have hI0h := Lib.hid hI0
  clear hW0 hI0
  refine wpIn_range_keep rfl (by omega) (gf := 73) (cb := w2.heap.size + 1) (lb := #[.pointer (some ⟨w2.heap.size + 1, 0, none⟩)]) rfl trivial (enters_of Try.func73 (by kernel_rfl) rfl)
    (encs := encE) (xs0 := backN es es.length) (backward_seq es (by omega) (.slice ao es.length cap) W0 (w2.heap.size + 1) hI0h.out.keep) (by omega) (fun x => rfl)
    (GetM w q ty now F w2.heap.size (w2.heap.size + 1) (.slice ao es.length cap) es)
    (fun c _ W => GetR w ty now F es c W)
    (fun pre A A' ⟨h, h2⟩ k => ⟨h.up k (fun n hn => by rw [hz] at hn; omega) hv, h2⟩)
    (fun c pre A A' ⟨h, p, h1, h2⟩ k => ⟨h, p, h1, h2.up k (fun n hn => by rw [hz] at hn; omega)⟩)
    (fun pre A h => h.1.keep)
    (fun W hu => ⟨hI0h.out.up hu (fun n hn => hn.elim) hv, fun p hp => by cases hp⟩)
    (fun x W => { tmps := #[.pointer (some ⟨t, 0, none⟩), .agg #[.string ⟨q.toArray⟩, .int .i64 ty], .int .i64 now, undef, .pointer (some ⟨w.heap.size, 0, none⟩), .pointer (some ⟨w.heap.size + 1, 0, none⟩), .pointer (some ⟨w.heap.size + 1 + 1, 0, none⟩), .pointer (some ⟨w.heap.size + 1 + 1 + 1, 0, none⟩), .pointer (some ⟨w.heap.size + 1 + 1 + 1 + 1, 0, none⟩), .pointer (some ⟨w2.heap.size, 0, none⟩), undef, .pointer (some ⟨W.heap.size, 0, none⟩), .pointer (some ⟨t, 0, none⟩), .bool false, .bool false, .int .i64 now, .bool true, .bool false, .bool false, undef, .pointer (some ⟨w.heap.size, 0, none⟩), .string ⟨q.toArray⟩, .string ⟨F.toArray⟩, .pointer (some ⟨t, 0, none⟩), .pointer (some ⟨t, 0, none⟩), .pointer (some ⟨t, 2, none⟩), .slice ao es.length cap, .func (.func 73) #[] #[.pointer (some ⟨w2.heap.size + 1, 0, none⟩)], .int .i64 x.1, .agg #[.string ⟨x.2.nm.toArray⟩, .int .i64 x.2.kd, .int .i64 x.2.k, .string ⟨x.2.sn.toArray⟩, .int .i64 x.2.st, .int .i64 x.2.tl, .string ⟨x.2.sd.toArray⟩, .int .i64 x.2.en], undef, undef, undef, undef, undef, undef, undef, undef, undef, undef, undef, undef, undef, undef, undef, undef, undef, undef, undef, undef, undef, undef, undef, undef, undef, undef, undef, undef, undef, undef, undef, undef, undef, undef, undef, undef], defers := [] })
    (fun x W => W.alloc (.cells #[.string ⟨x.2.nm.toArray⟩, .int .i64 x.2.kd, .int .i64 x.2.k, .string ⟨x.2.sn.toArray⟩, .int .i64 x.2.st, .int .i64 x.2.tl, .string ⟨x.2.sd.toArray⟩, .int .i64 x.2.en] 100)) (fun x W => (Upd.refl _ W).alloc _) ?assign ?body ?done ?stop
  case assign =>
    rintro l x W K hK
    simp only [encE]
    gi_wp2
    exact hK
  case body =>
    rintro l pre ⟨i, nm, kd, k, sn, st, tl, sd, en⟩ Wb W hlt hpx ⟨hI, hno⟩ hu
    rw [hz] at hlt
    simp only [] at hu ⊢
    have he := hu.block (n := Wb.heap.size) (by omega) (alloc_last _ _ _ rfl)
    have hbo : ∀ p ∈ pre, hitE F ty now p.2 = false := hno
    obtain ⟨a0, a1, af⟩ := cell2s hI.b0
    obtain ⟨e0, e1, e2, e3, e4, e5, e6, e7, ef⟩ := cell8s he
    have a2 : W.cell? ⟨w.heap.size + 1, 0, none⟩ = some (.int .i64 now) := by rw [blk_cell hI.b1]; rfl
    have a3 : W.cell? ⟨w2.heap.size, 0, none⟩ = some (.string ⟨F.toArray⟩) := by rw [blk_cell hI.bf]; rfl
    have hIh := Lib.hid hI
    have hpxh := Lib.hid hpx
    have hnoh := Lib.hid hno
    have heh := Lib.hid he
    clear hI hpx hno he hu
    by_cases k1 : nm = F
    · subst k1
      by_cases k2 : kd = 0
      · subst k2
        by_cases k3 : now < en
        · have hget := Lib.hid (getF_hit hpxh.out hnoh.out (by simp [hitE, k3]))
          obtain ⟨n2, n2f⟩ := (show W.cell? ⟨w.heap.size + 2, 0, none⟩ = some (.int .i64 0) ∧ W.frozen? ⟨w.heap.size + 2, 0, none⟩ = false from ⟨by rw [blk_cell hIh.out.b2]; rfl, blk_frz hIh.out.b2 0⟩)
          obtain ⟨n3, n31, n32, n33⟩ := four' hIh.out.b3
          have n3f : ∀ i, W.frozen? ⟨w.heap.size + 3, i, none⟩ = false := fun i => blk_frz hIh.out.b3 i
          obtain ⟨n4, n4f⟩ := (show W.cell? ⟨w.heap.size + 4, 0, none⟩ = some (.bool false) ∧ W.frozen? ⟨w.heap.size + 4, 0, none⟩ = false from ⟨by rw [blk_cell hIh.out.b4]; rfl, blk_frz hIh.out.b4 0⟩)
          have d0 : ¬ Wb.heap.size = w.heap.size + 2 := by omega
          have d0' : ¬ w.heap.size + 2 = Wb.heap.size := by omega
          have d1 : ¬ Wb.heap.size = w.heap.size + 3 := by omega
          have d1' : ¬ w.heap.size + 3 = Wb.heap.size := by omega
          have d2 : ¬ Wb.heap.size = w.heap.size + 4 := by omega
          have d2' : ¬ w.heap.size + 4 = Wb.heap.size := by omega
          gi_wp2
          refine wpIn_serial4 0 [] 3 [4] [[0, 1, 2, 3, 4, 5, 6], [0, 1, 2, 4, 3, 5, 6]] [[_, _, _, _, _, _, _], [_, _, _, _, _, _, _]] (by kernel_rfl) (by decide +kernel) rfl ⟨Nat.zero_le _, fun s hs => absurd hs List.not_mem_nil⟩ ?_ (by decide +kernel) ?_
          · exact NoBad.then (NoBad.inBlock NoBad.cell)
          refine ⟨?_, ?_, trivial⟩
          all_goals go_wp2
          all_goals gi_wp2
          all_goals exact get_hit hIh.out (by omega) hlt hz heh.out hget.out rfl rfl rfl rfl rfl rfl rfl rfl rfl
        · have hx := Lib.hid (show hitE nm ty now (i, (⟨nm, 0, k, sn, st, tl, sd, en⟩ : Ent)).2 = false by simp [hitE]; omega)
          gi_wp2
          exact get_more (p := (i, (⟨nm, 0, k, sn, st, tl, sd, en⟩ : Ent))) hIh.out hnoh.out hx.out
      · have k2b : (kd == 0) = false := beq_eq_false_iff_ne.2 k2
        by_cases k4 : kd = ty
        · subst k4
          by_cases k3 : now < en
          · have hget := Lib.hid (getF_hit hpxh.out hnoh.out (by simp [hitE, k3]))
            obtain ⟨n2, n2f⟩ := (show W.cell? ⟨w.heap.size + 2, 0, none⟩ = some (.int .i64 0) ∧ W.frozen? ⟨w.heap.size + 2, 0, none⟩ = false from ⟨by rw [blk_cell hIh.out.b2]; rfl, blk_frz hIh.out.b2 0⟩)
            obtain ⟨n3, n31, n32, n33⟩ := four' hIh.out.b3
            have n3f : ∀ i, W.frozen? ⟨w.heap.size + 3, i, none⟩ = false := fun i => blk_frz hIh.out.b3 i
            obtain ⟨n4, n4f⟩ := (show W.cell? ⟨w.heap.size + 4, 0, none⟩ = some (.bool false) ∧ W.frozen? ⟨w.heap.size + 4, 0, none⟩ = false from ⟨by rw [blk_cell hIh.out.b4]; rfl, blk_frz hIh.out.b4 0⟩)
            have d0 : ¬ Wb.heap.size = w.heap.size + 2 := by omega
            have d0' : ¬ w.heap.size + 2 = Wb.heap.size := by omega
            have d1 : ¬ Wb.heap.size = w.heap.size + 3 := by omega
            have d1' : ¬ w.heap.size + 3 = Wb.heap.size := by omega
            have d2 : ¬ Wb.heap.size = w.heap.size + 4 := by omega
            have d2' : ¬ w.heap.size + 4 = Wb.heap.size := by omega
            gi_wp2
            refine wpIn_serial4 0 [] 3 [4] [[0, 1, 2, 3, 4, 5, 6], [0, 1, 2, 4, 3, 5, 6]] [[_, _, _, _, _, _, _], [_, _, _, _, _, _, _]] (by kernel_rfl) (by decide +kernel) rfl ⟨Nat.zero_le _, fun s hs => absurd hs List.not_mem_nil⟩ ?_ (by decide +kernel) ?_
            · exact NoBad.then (NoBad.inBlock NoBad.cell)
            refine ⟨?_, ?_, trivial⟩
            all_goals go_wp2
            all_goals gi_wp2
            all_goals exact get_hit hIh.out (by omega) hlt hz heh.out hget.out rfl rfl rfl rfl rfl rfl rfl rfl rfl
          · have hx := Lib.hid (show hitE nm kd now (i, (⟨nm, kd, k, sn, st, tl, sd, en⟩ : Ent)).2 = false by simp [hitE]; omega)
            gi_wp2
            exact get_more (p := (i, (⟨nm, kd, k, sn, st, tl, sd, en⟩ : Ent))) hIh.out hnoh.out hx.out
        · have k4b : (kd == ty) = false := beq_eq_false_iff_ne.2 k4
          gi_wp2
          exact get_more hIh.out hnoh.out (by simp [hitE, k2, k4])
    · have k1b : (nm == F) = false := beq_eq_false_iff_ne.2 k1
      gi_wp2
      exact get_more hIh.out hnoh.out (by simp [hitE, k1])
  case done =>
    rintro W ⟨hI, hno⟩ hK
    have hg := Lib.hid (getF_no hno)
    obtain ⟨n2, n2f⟩ := (show W.cell? ⟨w.heap.size + 2, 0, none⟩ = some (.int .i64 0) ∧ W.frozen? ⟨w.heap.size + 2, 0, none⟩ = false from ⟨by rw [blk_cell hI.b2]; rfl, blk_frz hI.b2 0⟩)
    obtain ⟨n3, n31, n32, n33⟩ := four' hI.b3
    have n3f : ∀ i, W.frozen? ⟨w.heap.size + 3, i, none⟩ = false := fun i => blk_frz hI.b3 i
    obtain ⟨n4, n4f⟩ := (show W.cell? ⟨w.heap.size + 4, 0, none⟩ = some (.bool false) ∧ W.frozen? ⟨w.heap.size + 4, 0, none⟩ = false from ⟨by rw [blk_cell hI.b4]; rfl, blk_frz hI.b4 0⟩)
    have hIh := Lib.hid hI
    clear hI hno
    gi_wp2
    obtain ⟨hu6, r1, r2, r3⟩ := get_zero hIh.out rfl rfl rfl rfl rfl rfl rfl
    have hK' := hu6.block (n := W0.heap.size) (by omega) hK
    have hup : ∀ Y : World, Upd (fun n => n = W0.heap.size) Y (Y.putObj W0.heap.size (.deferred none)) := fun Y => Upd.putObj (S := fun n => n = W0.heap.size) (Upd.refl _ _) (fun _ => rfl) _
    refine ⟨by simp, .inl ⟨_, _, rfl, run_takeDeferred hK', ?_⟩⟩
    refine ⟨_, res_get rfl rfl rfl ((hup _).block (by omega) r1) ((hup _).block (by omega) r2) ((hup _).block (by omega) r3), _, rfl, by rw [hg.out]; rfl, ?_⟩
    exact Upd.trans (S := fun _ => False) (Upd.trans (S := fun _ => False) hIh.out.upd hu6 (fun n hn hs => by omega)) (hup _) (fun n hn hs => by omega)
  case stop =>
    rintro c pre W hpx ⟨rfl, p, hp, hX⟩ hK
    gi_wp2
    have hup : Upd (fun n => n = W0.heap.size) W (W.putObj W0.heap.size (.deferred none)) := Upd.putObj (S := fun n => n = W0.heap.size) (Upd.refl _ _) (fun _ => rfl) _
    have hX' := hX.up hup (fun n hn => by omega)
    refine ⟨by simp, .inl ⟨_, _, rfl, run_takeDeferred hK, ?_⟩⟩
    exact ⟨_, res_get rfl rfl rfl hX'.b2 hX'.b3 hX'.b4, _, rfl, by rw [hp]; rfl, hX'.upd⟩
def getOut (es : List Ent) (q : Bs) (ty now : Int) : Value := if timeOk now = true then getR now (getF es (fold q) ty now) else getV 0 [] 0 0 [] false
theorem dget_w {w : World} {t : Nat} {room most : Int} {es : List Ent} (h : Sto B w t room most es) (q : Bs) (ty now : Int) (hq : q.length ≤ 70000) :
    Calls Try.prog 37 #[.pointer (some ⟨t, 0, none⟩), .agg #[.string ⟨q.toArray⟩, .int .i64 ty], .int .i64 now] w (Rets fun r w' => r = getOut es q ty now ∧ Upd0 w w') := by
  obtain ⟨ok, v, hi⟩ := h
  obtain ⟨ao, cap, rfl⟩ := hi.row.slice
  have h1 := ok.len
  have h2 := ok.r2
  cases hT : timeOk now with
  | true =>
    refine (callsIn_wide.1 (dget_in t room most es ao cap q ty now hq hT w hi (by omega))).mono ?_
    rintro e w' ⟨r, rfl, hr, hu⟩
    exact ⟨by rw [getOut, if_pos hT]; exact hr, hu⟩
  | false =>
    refine (dget_bad (some ⟨t, 0, none⟩) q ty now (.inr hT) w).mono ?_
    intro e w' he
    cases e <;> first | exact he.elim | skip
    exact ⟨by rw [getOut, if_neg (by rw [hT]; decide)]; exact he.1, he.2⟩
theorem dget_nil (q : Bs) (ty now : Int) (w : World) :
    Calls Try.prog 37 #[.pointer none, .agg #[.string ⟨q.toArray⟩, .int .i64 ty], .int .i64 now] w (Rets fun r w' => r = getV 0 [] 0 0 [] false ∧ Upd0 w w') := dget_bad none q ty now (.inl rfl) w
end Go.Proofs.Ytdjleplefbmjbaa
