/-
  The program's reader of messages in memory: want, take, number.
-/
import Derived.Test.YtgdejgfmhndbhaaKh
import Derived.Test.YtgdejgfmhndbhaaKc
import Derived.Test.YtgdejgfmhndbhaaKb
namespace Go.Proofs.Ytgdejgfmhndbhaa
open Go.RowKit
set_option linter.unusedSimpArgs false
set_option linter.unusedVariables false
structure Rk where
  p : Nat
  e : Int
def Rk.want (r : Rk) (is : Bool) (x : Int) : Rk := if r.e = 0 ∧ is = false then ⟨r.p, x⟩ else r
def takO (s : Bs) (r : Rk) (n : Nat) : Bool := decide (r.e = 0) && decide (r.p + n ≤ s.length)
def takR (s : Bs) (r : Rk) (n : Nat) : Rk := if takO s r n then ⟨r.p + n, r.e⟩ else r.want false 3
def takS (s : Bs) (r : Rk) (n : Nat) : Bs := if takO s r n then (s.drop r.p).take n else []
def RkM (W : World) (t : Nat) (s : Bs) (r : Rk) : Prop := W.heap[t]? = some (.cells #[.string ⟨s.toArray⟩, .int .i64 r.p, .int .i64 r.e] 78 (0, 0))
abbrev UpdT (t : Nat) (w w' : World) : Prop := Upd (fun k => k = t) w w'
theorem UpdT.tr {t : Nat} {w w' w'' : World} (h : UpdT t w w') (k : UpdT t w' w'') : UpdT t w w'' := Upd.trans h k (fun _ _ h => h)
theorem UpdT.of0 {t : Nat} {w w' : World} (h : Upd0 w w') : UpdT t w w' := h.mono (fun _ _ h => h.elim)
theorem UpdT.fin {t : Nat} {w0 w w' : World} (h : Upd0 w0 w) (ht : w0.heap.size ≤ t) (k : UpdT t w w') : Upd0 w0 w' := Upd.trans h k fun n hn hs => by omega
theorem RkM.lt {w : World} {t : Nat} {s : Bs} {r : Rk} (h : RkM w t s r) : t < w.heap.size := blk_lt h
theorem RkM.to0 {w w' : World} {t : Nat} {s : Bs} {r : Rk} (h : RkM w t s r) (k : Upd0 w w') : RkM w' t s r := k.block (fun h => h) h
theorem RkM.cells {w : World} {t : Nat} {s : Bs} {r : Rk} (h : RkM w t s r) : w.cell? ⟨t, 0, none⟩ = some (.string ⟨s.toArray⟩) ∧ w.cell? ⟨t, 1, none⟩ = some (.int .i64 r.p) ∧ w.cell? ⟨t, 2, none⟩ = some (.int .i64 r.e) ∧ ∀ i, w.frozen? ⟨t, i, none⟩ = false := ⟨by rw [blk_cell h]; rfl, by rw [blk_cell h]; rfl, by rw [blk_cell h]; rfl, fun i => blk_frz h i⟩
theorem RkM.setE {w : World} {t : Nat} {s : Bs} {r : Rk} (h : RkM w t s r) (x : Int) : RkM (w.setCell ⟨t, 2, none⟩ (.int .i64 x)) t s ⟨r.p, x⟩ := by simpa [RkM] using blk_set h 2 (.int .i64 x)
theorem RkM.setP {w : World} {t : Nat} {s : Bs} {r : Rk} (h : RkM w t s r) (x : Nat) : RkM (w.setCell ⟨t, 1, none⟩ (.int .i64 x)) t s ⟨x, r.e⟩ := by simpa [RkM] using blk_set h 1 (.int .i64 x)
theorem UpdT.set (t : Nat) (w : World) (i : Nat) (v : Value) : UpdT t w (w.setCell ⟨t, i, none⟩ v) := (Upd.refl (fun k => k = t) w).setCell (p := ⟨t, i, none⟩) (fun _ => rfl) v
theorem Rk.want_p (r : Rk) (is : Bool) (x : Int) : (r.want is x).p = r.p := by unfold Rk.want; split <;> rfl
theorem Rk.want_bad {r : Rk} (h : ¬ r.e = 0) (is : Bool) (x : Int) : r.want is x = r := by unfold Rk.want; rw [if_neg (fun k => h k.1)]
theorem Rk.want_yes (r : Rk) (x : Int) : r.want true x = r := by unfold Rk.want; rw [if_neg (fun k => by cases k.2)]
theorem Rk.want_no {r : Rk} (h : r.e = 0) (x : Int) : r.want false x = ⟨r.p, x⟩ := by unfold Rk.want; rw [if_pos ⟨h, rfl⟩]
set_option maxRecDepth 100000 in
theorem want_w (t : Nat) (s : Bs) (r : Rk) (is : Bool) (x : Int) (hx : ¬ x = 0) (w : World) (h : RkM w t s r) :
    Calls Try.prog 50 #[.pointer (some ⟨t, 0, none⟩), .bool is, .int .i64 x] w (Rets fun v w' => v = .bool (decide ((r.want is x).e = 0)) ∧ RkM w' t s (r.want is x) ∧ UpdT t w w') := by
  obtain ⟨c0, c1, c2, c3⟩ := h.cells
  have hlt := h.lt
  have hh := Lib.hid h
  obtain ⟨p, e⟩ := r
  clear h
  by_cases he : e = 0
  · subst he
    cases is with
    | true =>
      rw [Rk.want_yes]
      go_enter Try.func50, Try.ntmps50
      go_wp2_with (first | (with_reducible refine wp_serial (by kernel_rfl) (by kernel_rfl) (by repeat with_reducible (first | apply NoBad.then | apply NoBad.inBlock | apply NoBad.jump | exact NoBad.rets)) ?_) | fail)
      all_goals go_returns
      all_goals exact ⟨rfl, hh.out, Upd.refl _ _⟩
    | false =>
      rw [Rk.want_no rfl]
      go_enter Try.func50, Try.ntmps50
      go_wp2_with (first | (with_reducible refine wp_serial (by kernel_rfl) (by kernel_rfl) (by repeat with_reducible (first | apply NoBad.then | apply NoBad.inBlock | apply NoBad.jump | exact NoBad.rets)) ?_) | fail)
      all_goals go_returns
      all_goals exact ⟨by first | rfl | simp [hx], hh.out.setE x, UpdT.set t w 2 _⟩
  · have heh := Lib.hid he
    rw [Rk.want_bad he]
    go_enter Try.func50, Try.ntmps50
    go_wp2_with (first | (with_reducible refine wp_serial (by kernel_rfl) (by kernel_rfl) (by repeat with_reducible (first | apply NoBad.then | apply NoBad.inBlock | apply NoBad.jump | exact NoBad.rets)) ?_) | fail)
    all_goals go_returns
    all_goals exact ⟨by first | rfl | simp [heh.out], hh.out, Upd.refl _ _⟩
theorem takO_iff {s : Bs} {r : Rk} {n : Nat} : takO s r n = true ↔ r.e = 0 ∧ r.p + n ≤ s.length := by simp [takO]
set_option maxRecDepth 100000 in
theorem take_w (t : Nat) (s : Bs) (r : Rk) (n : Nat) (w : World) (h : RkM w t s r) (hs : s.length ≤ 70000) (hp : r.p ≤ 70000) (hn : n ≤ 70000) :
    Calls Try.prog 69 #[.pointer (some ⟨t, 0, none⟩), .int .i64 n] w (Rets fun v w' => v = .string ⟨(takS s r n).toArray⟩ ∧ RkM w' t s (takR s r n) ∧ UpdT t w w') := by
  obtain ⟨c0, c1, c2, c3⟩ := h.cells
  have hlt := h.lt
  have hh := Lib.hid h
  have hW := Lib.hid (fun (is : Bool) (w' : World) (k : Upd0 w w') => want_w t s r is 3 (by decide) w' (h.to0 k))
  clear h
  cases hO : takO s r n with
  | true =>
    obtain ⟨he, hl⟩ := takO_iff.1 hO
    have e1 : takS s r n = (s.drop r.p).take n := by rw [takS, if_pos hO]
    have e2 : takR s r n = ⟨r.p + n, r.e⟩ := by rw [takR, if_pos hO]
    rw [e1, e2]
    have e3 := Lib.hid (show (s.take (r.p + n)).drop r.p = (s.drop r.p).take n by rw [List.drop_take]; congr 1; omega)
    obtain ⟨p, e⟩ := r
    simp only [] at he hl hp c1 c2 e3 hh ⊢
    subst he
    have hW2 := Lib.hid (show ∀ (is : Bool) (w' : World), Upd0 w w' → is = true → Calls Try.prog 50 #[.pointer (some ⟨t, 0, none⟩), .bool is, .int .i64 3] w' (Rets fun v w'' => v = .bool true ∧ RkM w'' t s ⟨p, 0⟩ ∧ UpdT t w' w'') from fun is w' k hi => by
      subst hi
      have := hW.out true w' k
      rw [Rk.want_yes] at this
      exact this)
    clear hW hO e1 e2
    go_enter Try.func69, Try.ntmps69
    go_wp2_with (first
      | (go_at_call 50; (with_reducible refine (hW2.out _ _ (by repeat first | with_reducible (first | exact Upd.refl _ _ | assumption | apply Upd.drew | apply Upd.alloc) | refine Upd0.tr ?_ (by with_reducible assumption) | refine Upd.setCell ?_ (fun h => absurd h (by first | exact Nat.lt_irrefl _ | (simp only []; omega))) _) (by first | rfl | (simp; omega) | simp)).use ?_); rintro v w1 ⟨rfl, hr1, hu1⟩; have hr1h := Lib.hid hr1; obtain ⟨x0, x1, x2, x3⟩ := hr1.cells; clear hr1)
      | (with_reducible refine wp_serial3_0 4 [1] [0, 1, 2, 3, 4, 5, 6, 7, 10, 11, 12, 13, 8, 9, 14, 15] [_, _, _, _, _, _, _, _, _, _, _, _, _, _, _, _] (by kernel_rfl) (by decide +kernel) rfl (by refine ⟨by first | decide | simp, fun s hs => ?_⟩; simp only [List.mem_cons, List.not_mem_nil, or_false] at hs; rcases hs with rfl <;> first | rfl | simp [go_sem, isI, Act.eval]) (by repeat with_reducible (first | apply NoBad.then | apply NoBad.inBlock | apply NoBad.jump | exact NoBad.rets)) ?_)
      | (with_reducible refine wp_serial (by kernel_rfl) (by kernel_rfl) (by repeat with_reducible (first | apply NoBad.then | apply NoBad.inBlock | apply NoBad.jump | exact NoBad.rets)) ?_) | fail)
    all_goals go_returns
    have hq := (hr1h.out.setP (p + n)).to0 ((Upd.refl _ _).drew)
    rw [Int.natCast_add] at hq
    exact ⟨by rw [← e3.out]; rfl, hq, (UpdT.of0 (by repeat first | with_reducible (first | exact Upd.refl _ _ | assumption | apply Upd.drew | apply Upd.alloc) | refine Upd0.tr ?_ (by with_reducible assumption) | refine Upd.setCell ?_ (fun h => absurd h (by first | exact Nat.lt_irrefl _ | (simp only []; omega))) _)).tr (hu1.tr ((UpdT.set t w1 1 _).drew))⟩
  | false =>
    have e1 : takS s r n = [] := by rw [takS, hO]; rfl
    have e2 : takR s r n = r.want false 3 := by rw [takR, hO]; rfl
    rw [e1, e2]
    obtain ⟨p, e⟩ := r
    simp only [] at hp c1 c2 hh ⊢
    clear e1 e2
    by_cases he : e = 0
    · subst he
      have hl : s.length < p + n := by
        have := fun h => (takO_iff (s := s) (r := ⟨p, 0⟩) (n := n)).2 ⟨rfl, h⟩
        rw [hO] at this
        simp at this
        omega
      have hW2 := Lib.hid (show ∀ (is : Bool) (w' : World), Upd0 w w' → is = false → Calls Try.prog 50 #[.pointer (some ⟨t, 0, none⟩), .bool is, .int .i64 3] w' (Rets fun v w'' => v = .bool false ∧ RkM w'' t s ⟨p, 3⟩ ∧ UpdT t w' w'') from fun is w' k hi => by
        subst hi
        have := hW.out false w' k
        rw [Rk.want_no rfl] at this
        exact this)
      clear hW hO
      rw [Rk.want_no rfl]
      go_enter Try.func69, Try.ntmps69
      go_wp2_with (first
        | (go_at_call 50; (with_reducible refine (hW2.out _ _ (by repeat first | with_reducible (first | exact Upd.refl _ _ | assumption | apply Upd.drew | apply Upd.alloc) | refine Upd0.tr ?_ (by with_reducible assumption) | refine Upd.setCell ?_ (fun h => absurd h (by first | exact Nat.lt_irrefl _ | (simp only []; omega))) _) (by first | rfl | (simp; omega) | simp)).use ?_); rintro v w1 ⟨rfl, hr1, hu1⟩; have hr1h := Lib.hid hr1; obtain ⟨x0, x1, x2, x3⟩ := hr1.cells; clear hr1)
        | (with_reducible refine wp_serial (by kernel_rfl) (by kernel_rfl) (by repeat with_reducible (first | apply NoBad.then | apply NoBad.inBlock | apply NoBad.jump | exact NoBad.rets)) ?_) | fail)
      all_goals go_returns
      all_goals exact ⟨rfl, hr1h.out.to0 (by repeat first | with_reducible (first | exact Upd.refl _ _ | assumption | apply Upd.drew | apply Upd.alloc) | refine Upd0.tr ?_ (by with_reducible assumption) | refine Upd.setCell ?_ (fun h => absurd h (by first | exact Nat.lt_irrefl _ | (simp only []; omega))) _), (UpdT.of0 (by repeat first | with_reducible (first | exact Upd.refl _ _ | assumption | apply Upd.drew | apply Upd.alloc) | refine Upd0.tr ?_ (by with_reducible assumption) | refine Upd.setCell ?_ (fun h => absurd h (by first | exact Nat.lt_irrefl _ | (simp only []; omega))) _)).tr hu1⟩
    · have hW2 := Lib.hid (show ∀ (is : Bool) (w' : World), Upd0 w w' → Calls Try.prog 50 #[.pointer (some ⟨t, 0, none⟩), .bool is, .int .i64 3] w' (Rets fun v w'' => v = .bool false ∧ RkM w'' t s ⟨p, e⟩ ∧ UpdT t w' w'') from fun is w' k => by
        have := hW.out is w' k
        rw [Rk.want_bad he, decide_eq_false he] at this
        exact this)
      rw [Rk.want_bad he]
      clear hW hO he
      go_enter Try.func69, Try.ntmps69
      go_wp2_with (first
        | (go_at_call 50; (with_reducible refine (hW2.out _ _ (by repeat first | with_reducible (first | exact Upd.refl _ _ | assumption | apply Upd.drew | apply Upd.alloc) | refine Upd0.tr ?_ (by with_reducible assumption) | refine Upd.setCell ?_ (fun h => absurd h (by first | exact Nat.lt_irrefl _ | (simp only []; omega))) _)).use ?_); rintro v w1 ⟨rfl, hr1, hu1⟩; have hr1h := Lib.hid hr1; obtain ⟨x0, x1, x2, x3⟩ := hr1.cells; clear hr1)
        | (with_reducible refine wp_serial (by kernel_rfl) (by kernel_rfl) (by repeat with_reducible (first | apply NoBad.then | apply NoBad.inBlock | apply NoBad.jump | exact NoBad.rets)) ?_) | fail)
      all_goals go_returns
      all_goals exact ⟨rfl, hr1h.out.to0 (by repeat first | with_reducible (first | exact Upd.refl _ _ | assumption | apply Upd.drew | apply Upd.alloc) | refine Upd0.tr ?_ (by with_reducible assumption) | refine Upd.setCell ?_ (fun h => absurd h (by first | exact Nat.lt_irrefl _ | (simp only []; omega))) _), (UpdT.of0 (by repeat first | with_reducible (first | exact Upd.refl _ _ | assumption | apply Upd.drew | apply Upd.alloc) | refine Upd0.tr ?_ (by with_reducible assumption) | refine Upd.setCell ?_ (fun h => absurd h (by first | exact Nat.lt_irrefl _ | (simp only []; omega))) _)).tr hu1⟩
end Go.Proofs.Ytgdejgfmhndbhaa
