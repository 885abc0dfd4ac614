/-
  Layer 18's operations: in memory; the walk of CacheNil.
-/
import Derived.Test.YtijmbpokglohbaaCaL
namespace Go.Proofs.Ytijmbpokglohbaa
open Go.RowKit Go.Maps
set_option linter.unusedSimpArgs false
set_option linter.unusedVariables false
variable {B : Nat}
/-- an operation: what to do, the set, where its data lie, the rank, the time -/
structure OpE where
  dO : Int
  s : St
  ao : Option Addr
  cap : Nat
  rk : Int
  now : Int
def OpE.cells (x : OpE) : List Value := [.int .i64 x.dO, .string ⟨x.s.nm.toArray⟩, .int .i64 x.s.ty, .int .i64 x.s.tl, .slice x.ao x.s.dt.length x.cap, .int .i64 x.rk, .int .i64 x.now]
def OpE.val (x : OpE) : Value := .agg #[.int .i64 x.dO, .string ⟨x.s.nm.toArray⟩, .int .i64 x.s.ty, .int .i64 x.s.tl, .slice x.ao x.s.dt.length x.cap, .int .i64 x.rk, .int .i64 x.now]
def OpE.ok (w : World) (x : OpE) : Prop := SR w x.ao x.s.dt ∧ (Lit.int .i64 x.s.ty).wf = true
theorem set7 {w : World} {b : Nat} {a0 a1 a2 a3 a4 a5 a6 : Value} {t : TypeId} (h : w.heap[b]? = some (.cells #[a0, a1, a2, a3, a4, a5, a6] t (0, 0))) : w.cell? ⟨b, 0, none⟩ = some a0 ∧ w.cell? ⟨b, 1, none⟩ = some a1 ∧ w.cell? ⟨b, 2, none⟩ = some a2 ∧ w.cell? ⟨b, 3, none⟩ = some a3 ∧ w.cell? ⟨b, 4, none⟩ = some a4 ∧ w.cell? ⟨b, 5, none⟩ = some a5 ∧ w.cell? ⟨b, 6, none⟩ = some a6 :=
  ⟨by rw [blk_cell h]; rfl, by rw [blk_cell h]; rfl, by rw [blk_cell h]; rfl, by rw [blk_cell h]; rfl, by rw [blk_cell h]; rfl, by rw [blk_cell h]; rfl, by rw [blk_cell h]; rfl⟩
theorem cputn_w (nm : Bs) (ty tl : Int) (ao : Option Addr) (n cap : Nat) (rk now : Int) (w : World) :
    Calls Try.prog 34 #[.pointer none, .agg #[.string ⟨nm.toArray⟩, .int .i64 ty, .int .i64 tl, .slice ao n cap], .int .i64 rk, .int .i64 now] w (Rets fun r w' => r = .int .i64 1 ∧ Upd0 w w') := by
  go_enter Try.func34, Try.ntmps34
  go_wp2_with (first | (with_reducible refine wp_serial (by kernel_rfl) (by kernel_rfl) (by repeat with_reducible (first | apply NoBad.then | apply NoBad.inBlock | apply NoBad.jump | exact NoBad.rets)) ?_) | fail)
  all_goals go_returns
  all_goals exact ⟨rfl, (by repeat first | with_reducible (first | exact Upd.refl _ _ | assumption | apply Upd.drew | apply Upd.alloc) | refine Upd0.tr ?_ (by with_reducible assumption) | refine Upd.setCell ?_ (fun h => absurd h (by first | exact Nat.lt_irrefl _ | (simp only []; omega))) _)⟩
set_option maxRecDepth 100000 in
set_option maxHeartbeats 4000000 in
theorem cacheNil_walk (x : OpE) (w : World) (hx : OpE.ok w x) : Calls Try.prog 10 #[x.val] w (Rets fun r w' => r = .bool true ∧ Upd0 w w') := by
  obtain ⟨dO, s, ao, cap, rk, now⟩ := x
  obtain ⟨hS, hty⟩ := hx
  have hSh := Lib.hid hS
  have hw := Lib.hid (fun (w' : World) (k : SR w' ao s.dt) => cshort_w s ao cap w' k)
  obtain ⟨fb, hfb⟩ : ∃ fb, fewS s = fb := ⟨_, rfl⟩
  rw [hfb] at hw
  obtain ⟨nm, ty, tl, dt⟩ := s
  simp only [OpE.val, St.val] at hw hSh hty ⊢
  clear hfb hS
  cases fb with
  | false =>
    go_enter Try.func10, Try.ntmps10
    go_wp2_with (first
      | (go_at_call 33; (with_reducible refine (hw.out _ (hSh.out.up (by repeat first | with_reducible (first | exact Upd.refl _ _ | assumption | apply Upd.drew | apply Upd.alloc) | refine Upd0.tr ?_ (by with_reducible assumption) | refine Upd.setCell ?_ (fun h => absurd h (by first | exact Nat.lt_irrefl _ | (simp only []; omega))) _))).use ?_); rintro v w1 ⟨rfl, hu1⟩)
      | (go_at_call 32; (with_reducible refine (clive_w _).use ?_); rintro v w2 ⟨rfl, hu2⟩)
      | (with_reducible refine wp_serial (by kernel_rfl) (by kernel_rfl) (by repeat with_reducible (first | apply NoBad.then | apply NoBad.inBlock | apply NoBad.jump | exact NoBad.rets)) ?_) | fail)
    all_goals go_returns
    all_goals exact ⟨rfl, (by repeat first | with_reducible (first | exact Upd.refl _ _ | assumption | apply Upd.drew | apply Upd.alloc) | refine Upd0.tr ?_ (by with_reducible assumption) | refine Upd.setCell ?_ (fun h => absurd h (by first | exact Nat.lt_irrefl _ | (simp only []; omega))) _)⟩
  | true =>
    have tk1 : True := trivial
    go_enter Try.func10, Try.ntmps10
    go_wp2_with (first
      | (go_at_call 33; (with_reducible refine (hw.out _ (hSh.out.up (by repeat first | with_reducible (first | exact Upd.refl _ _ | assumption | apply Upd.drew | apply Upd.alloc) | refine Upd0.tr ?_ (by with_reducible assumption) | refine Upd.setCell ?_ (fun h => absurd h (by first | exact Nat.lt_irrefl _ | (simp only []; omega))) _))).use ?_); rintro v w1 ⟨rfl, hu1⟩; have y1 := Lib.hid (hu1.block (fun h => h) (alloc_last w _ w.heap.size rfl)))
      | (go_at_call 31; (with_reducible refine (cnew_no 0 5 (by decide) _).use ?_); rintro v w2 ⟨rfl, hu2⟩; have y2 := Lib.hid (hu2.block (fun h => h) y1.out); have yc := set7 y2.out; obtain ⟨c0, c1, c2, c3, c4, c5, c6⟩ := yc; have hbl2 := blk_lt y2.out)
      | (go_at_call 36; (with_reducible refine (cget_nil nm ty now _).use ?_); rintro v w3 ⟨rfl, hu3⟩; have y3 := Lib.hid (hu3.block (fun h => h) (by first | exact y2.out | exact blk_alloc y2.out)); have yd := set7 y3.out; obtain ⟨d0, d1, d2, d3, d4, d5, d6⟩ := yd; have hbl3 := blk_lt y3.out)
      | (go_at_call 34; (with_reducible refine (cputn_w nm ty tl ao dt.length cap rk now _).use ?_); rintro v w4 ⟨rfl, hu4⟩)
      | (go_at_call 39; (with_reducible refine (clen_nil _).use ?_); rintro v w5 ⟨rfl, hu5⟩)
      | (go_at_call 32; (with_reducible refine (clive_w _).use ?_); rintro v w6 ⟨rfl, hu6⟩)
      | (with_reducible refine wp_serial (by kernel_rfl) (by kernel_rfl) (by repeat with_reducible (first | apply NoBad.then | apply NoBad.inBlock | apply NoBad.jump | exact NoBad.rets)) ?_) | fail)
    all_goals go_returns
    all_goals exact ⟨rfl, (by repeat first | with_reducible (first | exact Upd.refl _ _ | assumption | apply Upd.drew | apply Upd.alloc) | refine Upd0.tr ?_ (by with_reducible assumption) | refine Upd.setCell ?_ (fun h => absurd h (by first | exact Nat.lt_irrefl _ | (simp only []; omega))) _)⟩
end Go.Proofs.Ytijmbpokglohbaa
