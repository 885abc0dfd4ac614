/-
  The program's cache: Put, where nothing is written.
-/
import Derived.Test.YtijmbpokglohbaaCaG
import Derived.Test.YtijmbpokglohbaaSerM
import Derived.Deep.CutRange
import Derived.Deep.CutBlock
namespace Go.Proofs.Ytijmbpokglohbaa
open Go.RowKit Go.Maps
set_option linter.unusedSimpArgs false
set_option linter.unusedVariables false
variable {B : Nat}
/-- data that stay whatever is done to the cache's own blocks -/
def Stay (B : Nat) (w : World) (ao : Option Addr) (l : List Bs) : Prop := ∀ wx, UpdQ B w wx → SR wx ao l
theorem Stay.up {w w' : World} {ao : Option Addr} {l : List Bs} (h : Stay B w ao l) (k : UpdQ B w w') : Stay B w' ao l := fun wx hx => h wx (k.tr hx)
theorem Stay.sr {w : World} {ao : Option Addr} {l : List Bs} (h : Stay B w ao l) : SR w ao l := h w (Upd.refl _ _)
theorem Stay.of {w0 w : World} {ao : Option Addr} {l : List Bs} (h : SR w0 ao l) (k : Upd0 w0 w) : Stay w0.heap.size w ao l := fun wx hx => h.up (UpdQ.fin k hx)
theorem Stay.dr {w : World} {ao : Option Addr} {l : List Bs} (h : DR w ao l) : Stay B w ao l := fun wx hx => (h.to hx (fun g cur fz hc hk => by rw [hc] at hk; exact absurd hk.2 (by simp [kindQ]))).1
def Ca (B : Nat) (w : World) (t : Nat) (c : CS) : Prop := ∃ bm M, CaIs B w t bm c.room c.most c.N c.L M
theorem Ca.to0 {w w' : World} {t : Nat} {c : CS} (h : Ca B w t c) (k : Upd0 w w') : Ca B w' t c := by
  obtain ⟨bm, M, h⟩ := h
  exact ⟨bm, M, h.to0 k⟩
theorem ckS_no {s : St} (h : mayS s = false) : ckS s = 1 := by rw [ckS, h]; rfl
theorem ckS_yes {s : St} (h : mayS s = true) : ckS s = 0 := by rw [ckS, h]; rfl
set_option maxRecDepth 100000 in
set_option maxHeartbeats 2000000 in
theorem cput_bad (t : Nat) (s : St) (ao : Option Addr) (cap : Nat) (rk now : Int) (w : World) (hf : fewS s = true) (hb : putB s rk now = false) (hS : SR w ao s.dt) :
    Calls Try.prog 34 #[.pointer (some ⟨t, 0, none⟩), s.val ao cap, .int .i64 rk, .int .i64 now] w (Rets fun r w' => r = .int .i64 1 ∧ Upd0 w w') := by
  obtain ⟨f1, f2, f3⟩ := fewS_num hf
  have g1 : s.nm.length ≤ 70000 := by omega
  have g2 : ∀ d ∈ s.dt, d.length ≤ 70000 := fun d hd => by have := f3 d hd; omega
  have g3 : s.dt.length ≤ 20 := by omega
  have hw := Lib.hid (fun (w' : World) (g : Nat) (h : w'.heap[g]? = some (.cells (setC s ao cap) 60 (0, 0))) (k : SR w' ao s.dt) => check1_w s g ao cap g1 g2 g3 w' h k)
  have hSh := Lib.hid hS
  have hd1 : mayS s = false ∨ (mayS s = true ∧ (decide (1 ≤ rk) && decide (rk ≤ 5)) = false) ∨ (mayS s = true ∧ (decide (1 ≤ rk) && decide (rk ≤ 5)) = true ∧ (decide (0 ≤ now) && decide (now ≤ 1099511627776)) = false) := by
    revert hb
    rw [putB]
    cases mayS s <;> cases (decide (1 ≤ rk) && decide (rk ≤ 5)) <;> cases (decide (0 ≤ now) && decide (now ≤ 1099511627776)) <;> simp
  clear hb hS f1 f2 f3 g1 g2 g3 hf
  have tk1 : True := trivial
  rcases hd1 with h1 | ⟨h1, h2⟩ | ⟨h1, h2, h3⟩
  · have hck := Lib.hid (ckS_no h1)
    obtain ⟨nm, ty, tl, dt⟩ := s
    simp only [St.val] at hw hSh hck ⊢
    clear h1
    go_enter Try.func34, Try.ntmps34
    go_wp2_with (first
      | (go_at_call 41; refine (hw.out _ _ (alloc_last _ _ _ (by simp)) (hSh.out.up (by repeat first | with_reducible (first | exact Upd.refl _ _ | assumption | apply Upd.drew | apply Upd.alloc) | refine Upd0.tr ?_ (by with_reducible assumption) | refine Upd.setCell ?_ (fun h => absurd h (by first | exact Nat.lt_irrefl _ | (simp only []; omega))) _))).use ?_; rintro v w1 ⟨rfl, hu1⟩; rw [hck.out])
      | (with_reducible refine wp_serial (by kernel_rfl) (by kernel_rfl) (by repeat with_reducible (first | apply NoBad.then | apply NoBad.inBlock | apply NoBad.jump | exact NoBad.rets)) ?_) | fail)
    all_goals go_returns
    all_goals exact ⟨rfl, (by repeat first | with_reducible (first | exact Upd.refl _ _ | assumption | apply Upd.drew | apply Upd.alloc) | refine Upd0.tr ?_ (by with_reducible assumption) | refine Upd.setCell ?_ (fun h => absurd h (by first | exact Nat.lt_irrefl _ | (simp only []; omega))) _)⟩
  · have hck := Lib.hid (ckS_yes h1)
    have h2h := Lib.hid h2
    obtain ⟨nm, ty, tl, dt⟩ := s
    simp only [St.val] at hw hSh hck ⊢
    clear h1 h2
    go_enter Try.func34, Try.ntmps34
    go_wp2_with (first
      | (go_at_call 41; refine (hw.out _ _ (alloc_last _ _ _ (by simp)) (hSh.out.up (by repeat first | with_reducible (first | exact Upd.refl _ _ | assumption | apply Upd.drew | apply Upd.alloc) | refine Upd0.tr ?_ (by with_reducible assumption) | refine Upd.setCell ?_ (fun h => absurd h (by first | exact Nat.lt_irrefl _ | (simp only []; omega))) _))).use ?_; rintro v w1 ⟨rfl, hu1⟩; rw [hck.out])
      | (go_at_call 57; (with_reducible refine (within_w rk 1 5 _).use ?_); rintro v w2 ⟨rfl, hu2⟩; rw [h2h.out])
      | (with_reducible refine wp_serial (by kernel_rfl) (by kernel_rfl) (by repeat with_reducible (first | apply NoBad.then | apply NoBad.inBlock | apply NoBad.jump | exact NoBad.rets)) ?_) | fail)
    all_goals go_returns
    all_goals exact ⟨rfl, (by repeat first | with_reducible (first | exact Upd.refl _ _ | assumption | apply Upd.drew | apply Upd.alloc) | refine Upd0.tr ?_ (by with_reducible assumption) | refine Upd.setCell ?_ (fun h => absurd h (by first | exact Nat.lt_irrefl _ | (simp only []; omega))) _)⟩
  · have hck := Lib.hid (ckS_yes h1)
    have h2h := Lib.hid h2
    have h3h := Lib.hid h3
    obtain ⟨nm, ty, tl, dt⟩ := s
    simp only [St.val] at hw hSh hck ⊢
    clear h1 h2 h3
    go_enter Try.func34, Try.ntmps34
    go_wp2_with (first
      | (go_at_call 41; refine (hw.out _ _ (alloc_last _ _ _ (by simp)) (hSh.out.up (by repeat first | with_reducible (first | exact Upd.refl _ _ | assumption | apply Upd.drew | apply Upd.alloc) | refine Upd0.tr ?_ (by with_reducible assumption) | refine Upd.setCell ?_ (fun h => absurd h (by first | exact Nat.lt_irrefl _ | (simp only []; omega))) _))).use ?_; rintro v w1 ⟨rfl, hu1⟩; rw [hck.out])
      | (go_at_call 57; have _t := tk1; (with_reducible refine (within_w rk 1 5 _).use ?_); rintro v w2 ⟨rfl, hu2⟩; rw [h2h.out]; clear tk1 _t)
      | (go_at_call 57; (with_reducible refine (within_w now 0 1099511627776 _).use ?_); rintro v w3 ⟨rfl, hu3⟩; rw [h3h.out])
      | (with_reducible refine wp_serial (by kernel_rfl) (by kernel_rfl) (by repeat with_reducible (first | apply NoBad.then | apply NoBad.inBlock | apply NoBad.jump | exact NoBad.rets)) ?_) | fail)
    all_goals go_returns
    all_goals exact ⟨rfl, (by repeat first | with_reducible (first | exact Upd.refl _ _ | assumption | apply Upd.drew | apply Upd.alloc) | refine Upd0.tr ?_ (by with_reducible assumption) | refine Upd.setCell ?_ (fun h => absurd h (by first | exact Nat.lt_irrefl _ | (simp only []; omega))) _)⟩
theorem cput_nil (s : St) (ao : Option Addr) (cap : Nat) (rk now : Int) (w : World) :
    Calls Try.prog 34 #[.pointer none, s.val ao cap, .int .i64 rk, .int .i64 now] w (Rets fun r w' => r = .int .i64 1 ∧ Upd0 w w') := by
  obtain ⟨nm, ty, tl, dt⟩ := s
  simp only [St.val]
  go_enter Try.func34, Try.ntmps34
  go_wp2_with (first | (with_reducible refine wp_serial (by kernel_rfl) (by kernel_rfl) (by repeat with_reducible (first | apply NoBad.then | apply NoBad.inBlock | apply NoBad.jump | exact NoBad.rets)) ?_) | fail)
  all_goals go_returns
  all_goals exact ⟨rfl, (by repeat first | with_reducible (first | exact Upd.refl _ _ | assumption | apply Upd.drew | apply Upd.alloc) | refine Upd0.tr ?_ (by with_reducible assumption) | refine Upd.setCell ?_ (fun h => absurd h (by first | exact Nat.lt_irrefl _ | (simp only []; omega))) _)⟩
end Go.Proofs.Ytijmbpokglohbaa
