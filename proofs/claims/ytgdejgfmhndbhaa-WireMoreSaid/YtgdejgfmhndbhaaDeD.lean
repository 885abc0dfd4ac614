/-
  The program's reader of messages: a name's bytes, a record's data.
-/
import Derived.Test.YtgdejgfmhndbhaaDeC
namespace Go.Proofs.Ytgdejgfmhndbhaa
open Go.RowKit
set_option linter.unusedSimpArgs false
set_option linter.unusedVariables false
theorem naF_fin {s : Bs} (hs : s.length ≤ 70000) : ∀ (f : Nat) (r : Rk) (bg : Nat) (bk : Option Nat) (out : Bs), r.p ≤ 70000 → bk.getD 0 ≤ 70000 → (r.e = 0 → out.length < 255) → (naF s f r bg bk out).1.length < 255 ∧ (naF s f r bg bk out).2.p ≤ 70000
  | 0, r, bg, bk, out, hp, _, _ => ⟨by simp [naF], by simpa [naF] using hp⟩
  | f + 1, r, bg, bk, out, hp, hb, ho => by
    have hp1 : (nuR s r 1).p ≤ 70000 := takR_p s r 1 hp hs
    have hbk : bk.getD (nuR s r 1).p ≤ 70000 := by cases bk <;> simpa using by first | exact hp1 | exact hb
    by_cases h1 : (nuR s r 1).e = 0
    · have h0 := ho (nuR_e h1)
      by_cases h2 : nuN s r 1 = 0
      · rw [naF_end h1 h2]; exact ⟨h0, hbk⟩
      · by_cases h3 : nuN s r 1 ≤ 63
        · rw [naF_lab h1 h2 h3]
          exact naF_fin hs f _ _ _ _ (by rw [Rk.want_p]; exact takR_p s _ _ hp1 hs) hb (fun h => by simpa using (want_e (by decide) h).2)
        · rw [naF_ptr rfl rfl h1 h3 rfl rfl rfl rfl]
          have hp2 : ((nuR s r 1).want (decide (192 ≤ nuN s r 1)) 2).p ≤ 70000 := by rw [Rk.want_p]; exact hp1
          have hp3 := takR_p s _ 1 hp2 hs
          refine naF_fin hs f _ _ _ _ ?_ ?_ (fun _ => h0)
          · have := nuN_1 s ((nuR s r 1).want (decide (192 ≤ nuN s r 1)) 2)
            show ptrN _ _ ≤ 70000
            unfold ptrN; omega
          · show bk.getD _ ≤ 70000
            rw [Rk.want_p]
            cases bk with
            | none => exact hp3
            | some b => exact hb
    · rw [naF_bad h1]; exact ⟨by simp, hbk⟩
theorem naR_fin {s : Bs} (hs : s.length ≤ 70000) {r : Rk} (hp : r.p ≤ 70000) : (naR s r).1.length < 255 ∧ (naR s r).2.p ≤ 70000 := naF_fin hs _ _ _ _ _ hp (by simp) (fun _ => by simp)
theorem take2_w (t : Nat) (s : Bs) (r : Rk) (w : World) (h : RkM w t s r) (hs : s.length ≤ 70000) (hp : r.p ≤ 70000) :
    Calls Try.prog 69 #[.pointer (some ⟨t, 0, none⟩), .int .i64 2] w (Rets fun v w' => v = .string ⟨(takS s r 2).toArray⟩ ∧ RkM w' t s (takR s r 2) ∧ UpdT t w w') := take_w t s r 2 w h hs hp (by decide)
theorem take20_w (t : Nat) (s : Bs) (r : Rk) (w : World) (h : RkM w t s r) (hs : s.length ≤ 70000) (hp : r.p ≤ 70000) :
    Calls Try.prog 69 #[.pointer (some ⟨t, 0, none⟩), .int .i64 20] w (Rets fun v w' => v = .string ⟨(takS s r 20).toArray⟩ ∧ RkM w' t s (takR s r 20) ∧ UpdT t w w') := take_w t s r 20 w h hs hp (by decide)
def hoS (s : Bs) (r : Rk) : Bs := hostS (naR s r).1
def hoR (s : Bs) (r : Rk) : Rk := (naR s r).2
theorem hoS_len {s : Bs} (hs : s.length ≤ 70000) {r : Rk} (hp : r.p ≤ 70000) : (hoS s r).length ≤ 255 := by
  have := (naR_fin hs hp).1
  unfold hoS hostS; split
  · simp; omega
  · simp
theorem hoR_p {s : Bs} (hs : s.length ≤ 70000) {r : Rk} (hp : r.p ≤ 70000) : (hoR s r).p ≤ 70000 := (naR_fin hs hp).2
set_option maxRecDepth 100000 in
theorem rhost_dw (t : Nat) (s : Bs) (r : Rk) (w : World) (h : RkM w t s r) (hs : s.length ≤ 70000) (hp : r.p ≤ 70000) :
    Calls Try.prog 83 #[.pointer (some ⟨t, 0, none⟩)] w (Rets fun v w' => v = .string ⟨(hoS s r).toArray⟩ ∧ RkM w' t s (hoR s r) ∧ UpdT t w w') := by
  have hN := Lib.hid (fun (w' : World) (h : RkM w' t s r) => rname_dw t s r w' h hs hp)
  have hl := (naR_fin hs hp).1
  have hh := Lib.hid h
  have hlt := h.lt
  rw [hoS, hoR]
  generalize naR s r = x at hN hl ⊢
  obtain ⟨n, r1⟩ := x
  simp only [] at hN hl ⊢
  clear h
  go_enter Try.func83, Try.ntmps83
  go_wp2_with (first
    | (go_at_call 51; (with_reducible refine (hN.out _ (hh.out.to0 (by repeat first | with_reducible (first | exact Upd.refl _ _ | assumption | apply Upd.drew | apply Upd.alloc) | refine Upd0.tr ?_ (by with_reducible assumption) | refine Upd.setCell ?_ (fun h => absurd h (by first | exact Nat.lt_irrefl _ | (simp only []; omega))) _))).use ?_); rintro v w1 ⟨rfl, hm1, hu1⟩; have hm1h := Lib.hid hm1; have hlt1 := hm1.lt; obtain ⟨x1a, x1b, x1c, x1d⟩ := hm1.cells; clear hm1)
    | (go_at_call 85; (with_reducible refine (host_w n (by omega) _).use ?_); rintro v w2 ⟨rfl, hu2⟩)
    | (with_reducible refine wp_serial (by kernel_rfl) (by kernel_rfl) (by repeat with_reducible (first | apply NoBad.then | apply NoBad.inBlock | apply NoBad.jump | exact NoBad.rets)) ?_) | fail)
  all_goals go_returns
  all_goals exact ⟨rfl, hm1h.out.to0 (by repeat first | with_reducible (first | exact Upd.refl _ _ | assumption | apply Upd.drew | apply Upd.alloc) | refine Upd0.tr ?_ (by with_reducible assumption) | refine Upd.setCell ?_ (fun h => absurd h (by first | exact Nat.lt_irrefl _ | (simp only []; omega))) _), (UpdT.of0 (by repeat first | with_reducible (first | exact Upd.refl _ _ | assumption | apply Upd.drew | apply Upd.alloc) | refine Upd0.tr ?_ (by with_reducible assumption) | refine Upd.setCell ?_ (fun h => absurd h (by first | exact Nat.lt_irrefl _ | (simp only []; omega))) _)).tr (hu1.tr (UpdT.of0 (by repeat first | with_reducible (first | exact Upd.refl _ _ | assumption | apply Upd.drew | apply Upd.alloc) | refine Upd0.tr ?_ (by with_reducible assumption) | refine Upd.setCell ?_ (fun h => absurd h (by first | exact Nat.lt_irrefl _ | (simp only []; omega))) _)))⟩
theorem eq_is (a b c : Nat) : ((a : Int) == (b : Int) + c) = decide (a = b + c) := by
  by_cases h : a = b + c
  · rw [decide_eq_true h, beq_iff_eq]; omega
  · rw [decide_eq_false h, beq_eq_false_iff_ne]; omega
def daX (s : Bs) (r1 : Rk) (kind : Int) (n : Nat) : Bs × Rk :=
  if kind = 2 ∨ kind = 5 ∨ kind = 12 then (hoS s r1, hoR s r1)
  else if kind = 15 then (takS s r1 2 ++ hoS s (takR s r1 2), hoR s (takR s r1 2))
  else if kind = 6 then (hoS s r1 ++ (hoS s (hoR s r1) ++ takS s (hoR s (hoR s r1)) 20), takR s (hoR s (hoR s r1)) 20)
  else (takS s r1 n, takR s r1 n)
def daY (s : Bs) (r : Rk) (kind : Int) (n : Nat) : Bs × Rk :=
  if (r.want (decide (r.p + n ≤ s.length)) 3).e = 0 then daX s (r.want (decide (r.p + n ≤ s.length)) 3) kind n else ([], r.want (decide (r.p + n ≤ s.length)) 3)
def daS (s : Bs) (r : Rk) (kind : Int) (n : Nat) : Bs := (daY s r kind n).1
def daR (s : Bs) (r : Rk) (kind : Int) (n : Nat) : Rk := if (r.want (decide (r.p + n ≤ s.length)) 3).e = 0 then (daY s r kind n).2.want (decide ((daY s r kind n).2.p = r.p + n)) 2 else (daY s r kind n).2
theorem daX_fin {s : Bs} (hs : s.length ≤ 70000) {r : Rk} (hp : r.p ≤ 70000) (kind : Int) {n : Nat} (hn : n ≤ 65535) : (daX s r kind n).1.length ≤ 70000 ∧ (daX s r kind n).2.p ≤ 70000 := by
  have h1 := hoS_len hs hp
  have h2 := hoR_p hs hp
  have h3 := takR_p s r 2 hp hs
  have h4 := hoS_len hs h3
  have h5 := hoR_p hs h3
  have h6 := hoS_len hs h2
  have h7 := hoR_p hs h2
  have h8 := takR_p s _ 20 h7 hs
  have h9 := takS_len s (hoR s (hoR s r)) 20
  have hA := takS_len s r 2
  have hB := takS_len s r n
  have hC := takR_p s r n hp hs
  unfold daX
  split
  · exact ⟨by dsimp only; omega, h2⟩
  · split
    · exact ⟨by simp only [List.length_append]; omega, h5⟩
    · split
      · exact ⟨by simp only [List.length_append]; omega, h8⟩
      · exact ⟨by dsimp only; omega, hC⟩
theorem da_fin {s : Bs} (hs : s.length ≤ 70000) {r : Rk} (hp : r.p ≤ 70000) (kind : Int) {n : Nat} (hn : n ≤ 65535) : (daS s r kind n).length ≤ 70000 ∧ (daR s r kind n).p ≤ 70000 := by
  have h0 : (r.want (decide (r.p + n ≤ s.length)) 3).p ≤ 70000 := by rw [Rk.want_p]; exact hp
  have h1 := daX_fin hs h0 kind hn
  unfold daS daR daY
  split
  · exact ⟨h1.1, by rw [Rk.want_p]; exact h1.2⟩
  · exact ⟨by simp, h0⟩
set_option maxRecDepth 100000 in
theorem data_bad (t : Nat) (s : Bs) (r : Rk) (kind : Int) (n : Nat) (w : World) (h : RkM w t s r) (hs : s.length ≤ 70000) (hp : r.p ≤ 70000) (hn : n ≤ 65535) (he : ¬ (r.want (decide (r.p + n ≤ s.length)) 3).e = 0) :
    Calls Try.prog 70 #[.pointer (some ⟨t, 0, none⟩), .int .i64 kind, .int .i64 n] w (Rets fun v w' => v = .string ⟨(daS s r kind n).toArray⟩ ∧ RkM w' t s (daR s r kind n) ∧ UpdT t w w') := by
  obtain ⟨c0, c1, c2, c3⟩ := h.cells
  have hh := Lib.hid h
  have hlt := h.lt
  have hW1 := Lib.hid (fun (is : Bool) (w' : World) (h : RkM w' t s r) (hb : is = decide (r.p + n ≤ s.length)) => want_is t s r is (decide (r.p + n ≤ s.length)) 3 (by decide) w' h hb)
  have hp1 : (r.want (decide (r.p + n ≤ s.length)) 3).p ≤ 70000 := by rw [Rk.want_p]; exact hp
  rw [daS, daR, if_neg he, daY, if_neg he]
  rw [decide_eq_false he] at hW1
  obtain ⟨r1, hr1⟩ : ∃ r1, r.want (decide (r.p + n ≤ s.length)) 3 = r1 := ⟨_, rfl⟩
  rw [hr1] at hW1 ⊢
  have tk1 : True := trivial
  clear h he hr1
  go_enter Try.func70, Try.ntmps70
  go_wp2_with (first
    | (go_at_call 50; have _t := tk1; clear tk1 _t; (with_reducible refine (hW1.out _ _ (hh.out.to0 (by repeat first | with_reducible (first | exact Upd.refl _ _ | assumption | apply Upd.drew | apply Upd.alloc) | refine Upd0.tr ?_ (by with_reducible assumption) | refine Upd.setCell ?_ (fun h => absurd h (by first | exact Nat.lt_irrefl _ | (simp only []; omega))) _)) (by first | rfl | exact decide_eq_decide.2 (by omega))).use ?_); rintro v w1 ⟨rfl, hm1, hu1⟩; have hm1h := Lib.hid hm1; have hlt1 := hm1.lt; obtain ⟨x1a, x1b, x1c, x1d⟩ := hm1.cells; clear hm1)
    | (with_reducible refine wp_serial (by kernel_rfl) (by kernel_rfl) (by repeat with_reducible (first | apply NoBad.then | apply NoBad.inBlock | apply NoBad.jump | exact NoBad.rets)) ?_) | fail)
  all_goals go_returns
  all_goals exact ⟨rfl, hm1h.out.to0 (by repeat first | with_reducible (first | exact Upd.refl _ _ | assumption | apply Upd.drew | apply Upd.alloc) | refine Upd0.tr ?_ (by with_reducible assumption) | refine Upd.setCell ?_ (fun h => absurd h (by first | exact Nat.lt_irrefl _ | (simp only []; omega))) _), (UpdT.of0 (by repeat first | with_reducible (first | exact Upd.refl _ _ | assumption | apply Upd.drew | apply Upd.alloc) | refine Upd0.tr ?_ (by with_reducible assumption) | refine Upd.setCell ?_ (fun h => absurd h (by first | exact Nat.lt_irrefl _ | (simp only []; omega))) _)).tr (hu1.tr (UpdT.of0 (by repeat first | with_reducible (first | exact Upd.refl _ _ | assumption | apply Upd.drew | apply Upd.alloc) | refine Upd0.tr ?_ (by with_reducible assumption) | refine Upd.setCell ?_ (fun h => absurd h (by first | exact Nat.lt_irrefl _ | (simp only []; omega))) _)))⟩
set_option maxRecDepth 100000 in
theorem data_h2 (t : Nat) (s : Bs) (r : Rk) (n : Nat) (w : World) (h : RkM w t s r) (hs : s.length ≤ 70000) (hp : r.p ≤ 70000) (hn : n ≤ 65535) (he : (r.want (decide (r.p + n ≤ s.length)) 3).e = 0) :
    Calls Try.prog 70 #[.pointer (some ⟨t, 0, none⟩), .int .i64 2, .int .i64 n] w (Rets fun v w' => v = .string ⟨(daS s r 2 n).toArray⟩ ∧ RkM w' t s (daR s r 2 n) ∧ UpdT t w w') := by
  obtain ⟨c0, c1, c2, c3⟩ := h.cells
  have hh := Lib.hid h
  have hlt := h.lt
  have hW1 := Lib.hid (fun (is : Bool) (w' : World) (h : RkM w' t s r) (hb : is = decide (r.p + n ≤ s.length)) => want_is t s r is (decide (r.p + n ≤ s.length)) 3 (by decide) w' h hb)
  have hp1 : (r.want (decide (r.p + n ≤ s.length)) 3).p ≤ 70000 := by rw [Rk.want_p]; exact hp
  have hy : daY s r 2 n = daX s (r.want (decide (r.p + n ≤ s.length)) 3) 2 n := by rw [daY, if_pos he]
  rw [daS, daR, if_pos he, hy]
  rw [decide_eq_true he] at hW1
  clear hy
  obtain ⟨r1, hr1⟩ : ∃ r1, r.want (decide (r.p + n ≤ s.length)) 3 = r1 := ⟨_, rfl⟩
  rw [hr1] at hW1 hp1 ⊢
  have hx : daX s r1 2 n = (hoS s r1, hoR s r1) := by rw [daX, if_pos (by decide)]
  rw [hx]
  clear h he hr1 hx
  have hH := Lib.hid (fun (w' : World) (h : RkM w' t s r1) => rhost_dw t s r1 w' h hs hp1)
  have hl1 := hoS_len hs hp1
  have hp2 := hoR_p hs hp1
  obtain ⟨l, hl⟩ : ∃ l, hoS s r1 = l := ⟨_, rfl⟩
  obtain ⟨r2, hr2⟩ : ∃ r2, hoR s r1 = r2 := ⟨_, rfl⟩
  rw [hl] at hl1
  rw [hr2] at hp2
  rw [hl, hr2] at hH
  simp only [hl, hr2]
  have hWz := Lib.hid (fun (is : Bool) (w' : World) (h : RkM w' t s r2) (hb : is = decide (r2.p = r.p + n)) => want_is t s r2 is (decide (r2.p = r.p + n)) 2 (by decide) w' h hb)
  clear hl hr2
  have tk1 : True := trivial
  have tk2 : True := trivial
  have tk3 : True := trivial
  go_enter Try.func70, Try.ntmps70
  go_wp2_with (first
    | (go_at_call 50; have _t := tk1; clear tk1 _t; (with_reducible refine (hW1.out _ _ (hh.out.to0 (by repeat first | with_reducible (first | exact Upd.refl _ _ | assumption | apply Upd.drew | apply Upd.alloc) | refine Upd0.tr ?_ (by with_reducible assumption) | refine Upd.setCell ?_ (fun h => absurd h (by first | exact Nat.lt_irrefl _ | (simp only []; omega))) _)) (by first | rfl | exact decide_eq_decide.2 (by omega))).use ?_); rintro v w1 ⟨rfl, hm1, hu1⟩; have hm1h := Lib.hid hm1; have hlt1 := hm1.lt; obtain ⟨x1a, x1b, x1c, x1d⟩ := hm1.cells; clear hm1)
    | (go_at_call 83; (with_reducible refine (hH.out _ (hm1h.out.to0 (by repeat first | with_reducible (first | exact Upd.refl _ _ | assumption | apply Upd.drew | apply Upd.alloc) | refine Upd0.tr ?_ (by with_reducible assumption) | refine Upd.setCell ?_ (fun h => absurd h (by first | exact Nat.lt_irrefl _ | (simp only []; omega))) _))).use ?_); rintro v w2 ⟨rfl, hm2, hu2⟩; have hm2h := Lib.hid hm2; have hlt2 := hm2.lt; obtain ⟨x2a, x2b, x2c, x2d⟩ := hm2.cells; clear hm2)
    | (go_at_call 50; (with_reducible refine (hWz.out _ _ (hm2h.out.to0 (by repeat first | with_reducible (first | exact Upd.refl _ _ | assumption | apply Upd.drew | apply Upd.alloc) | refine Upd0.tr ?_ (by with_reducible assumption) | refine Upd.setCell ?_ (fun h => absurd h (by first | exact Nat.lt_irrefl _ | (simp only []; omega))) _)) (eq_is _ _ _)).use ?_); rintro v w3 ⟨rfl, hm3, hu3⟩; have hm3h := Lib.hid hm3; have hlt3 := hm3.lt; obtain ⟨x3a, x3b, x3c, x3d⟩ := hm3.cells; clear hm3)
    | (with_reducible refine wp_serial (by kernel_rfl) (by kernel_rfl) (by repeat with_reducible (first | apply NoBad.then | apply NoBad.inBlock | apply NoBad.jump | exact NoBad.rets)) ?_) | fail)
  all_goals go_returns
  all_goals exact ⟨rfl, hm3h.out.to0 (by repeat first | with_reducible (first | exact Upd.refl _ _ | assumption | apply Upd.drew | apply Upd.alloc) | refine Upd0.tr ?_ (by with_reducible assumption) | refine Upd.setCell ?_ (fun h => absurd h (by first | exact Nat.lt_irrefl _ | (simp only []; omega))) _), ((UpdT.of0 (by repeat first | with_reducible (first | exact Upd.refl _ _ | assumption | apply Upd.drew | apply Upd.alloc) | refine Upd0.tr ?_ (by with_reducible assumption) | refine Upd.setCell ?_ (fun h => absurd h (by first | exact Nat.lt_irrefl _ | (simp only []; omega))) _)).tr (hu1.tr ((UpdT.of0 (by repeat first | with_reducible (first | exact Upd.refl _ _ | assumption | apply Upd.drew | apply Upd.alloc) | refine Upd0.tr ?_ (by with_reducible assumption) | refine Upd.setCell ?_ (fun h => absurd h (by first | exact Nat.lt_irrefl _ | (simp only []; omega))) _)).tr (hu2.tr ((UpdT.of0 (by repeat first | with_reducible (first | exact Upd.refl _ _ | assumption | apply Upd.drew | apply Upd.alloc) | refine Upd0.tr ?_ (by with_reducible assumption) | refine Upd.setCell ?_ (fun h => absurd h (by first | exact Nat.lt_irrefl _ | (simp only []; omega))) _)).tr (hu3.tr (UpdT.of0 (by repeat first | with_reducible (first | exact Upd.refl _ _ | assumption | apply Upd.drew | apply Upd.alloc) | refine Upd0.tr ?_ (by with_reducible assumption) | refine Upd.setCell ?_ (fun h => absurd h (by first | exact Nat.lt_irrefl _ | (simp only []; omega))) _))))))))⟩
set_option maxRecDepth 100000 in
theorem data_h5 (t : Nat) (s : Bs) (r : Rk) (n : Nat) (w : World) (h : RkM w t s r) (hs : s.length ≤ 70000) (hp : r.p ≤ 70000) (hn : n ≤ 65535) (he : (r.want (decide (r.p + n ≤ s.length)) 3).e = 0) :
    Calls Try.prog 70 #[.pointer (some ⟨t, 0, none⟩), .int .i64 5, .int .i64 n] w (Rets fun v w' => v = .string ⟨(daS s r 5 n).toArray⟩ ∧ RkM w' t s (daR s r 5 n) ∧ UpdT t w w') := by
  obtain ⟨c0, c1, c2, c3⟩ := h.cells
  have hh := Lib.hid h
  have hlt := h.lt
  have hW1 := Lib.hid (fun (is : Bool) (w' : World) (h : RkM w' t s r) (hb : is = decide (r.p + n ≤ s.length)) => want_is t s r is (decide (r.p + n ≤ s.length)) 3 (by decide) w' h hb)
  have hp1 : (r.want (decide (r.p + n ≤ s.length)) 3).p ≤ 70000 := by rw [Rk.want_p]; exact hp
  have hy : daY s r 5 n = daX s (r.want (decide (r.p + n ≤ s.length)) 3) 5 n := by rw [daY, if_pos he]
  rw [daS, daR, if_pos he, hy]
  rw [decide_eq_true he] at hW1
  clear hy
  obtain ⟨r1, hr1⟩ : ∃ r1, r.want (decide (r.p + n ≤ s.length)) 3 = r1 := ⟨_, rfl⟩
  rw [hr1] at hW1 hp1 ⊢
  have hx : daX s r1 5 n = (hoS s r1, hoR s r1) := by rw [daX, if_pos (by decide)]
  rw [hx]
  clear h he hr1 hx
  have hH := Lib.hid (fun (w' : World) (h : RkM w' t s r1) => rhost_dw t s r1 w' h hs hp1)
  have hl1 := hoS_len hs hp1
  have hp2 := hoR_p hs hp1
  obtain ⟨l, hl⟩ : ∃ l, hoS s r1 = l := ⟨_, rfl⟩
  obtain ⟨r2, hr2⟩ : ∃ r2, hoR s r1 = r2 := ⟨_, rfl⟩
  rw [hl] at hl1
  rw [hr2] at hp2
  rw [hl, hr2] at hH
  simp only [hl, hr2]
  have hWz := Lib.hid (fun (is : Bool) (w' : World) (h : RkM w' t s r2) (hb : is = decide (r2.p = r.p + n)) => want_is t s r2 is (decide (r2.p = r.p + n)) 2 (by decide) w' h hb)
  clear hl hr2
  have tk1 : True := trivial
  have tk2 : True := trivial
  have tk3 : True := trivial
  go_enter Try.func70, Try.ntmps70
  go_wp2_with (first
    | (go_at_call 50; have _t := tk1; clear tk1 _t; (with_reducible refine (hW1.out _ _ (hh.out.to0 (by repeat first | with_reducible (first | exact Upd.refl _ _ | assumption | apply Upd.drew | apply Upd.alloc) | refine Upd0.tr ?_ (by with_reducible assumption) | refine Upd.setCell ?_ (fun h => absurd h (by first | exact Nat.lt_irrefl _ | (simp only []; omega))) _)) (by first | rfl | exact decide_eq_decide.2 (by omega))).use ?_); rintro v w1 ⟨rfl, hm1, hu1⟩; have hm1h := Lib.hid hm1; have hlt1 := hm1.lt; obtain ⟨x1a, x1b, x1c, x1d⟩ := hm1.cells; clear hm1)
    | (go_at_call 83; (with_reducible refine (hH.out _ (hm1h.out.to0 (by repeat first | with_reducible (first | exact Upd.refl _ _ | assumption | apply Upd.drew | apply Upd.alloc) | refine Upd0.tr ?_ (by with_reducible assumption) | refine Upd.setCell ?_ (fun h => absurd h (by first | exact Nat.lt_irrefl _ | (simp only []; omega))) _))).use ?_); rintro v w2 ⟨rfl, hm2, hu2⟩; have hm2h := Lib.hid hm2; have hlt2 := hm2.lt; obtain ⟨x2a, x2b, x2c, x2d⟩ := hm2.cells; clear hm2)
    | (go_at_call 50; (with_reducible refine (hWz.out _ _ (hm2h.out.to0 (by repeat first | with_reducible (first | exact Upd.refl _ _ | assumption | apply Upd.drew | apply Upd.alloc) | refine Upd0.tr ?_ (by with_reducible assumption) | refine Upd.setCell ?_ (fun h => absurd h (by first | exact Nat.lt_irrefl _ | (simp only []; omega))) _)) (eq_is _ _ _)).use ?_); rintro v w3 ⟨rfl, hm3, hu3⟩; have hm3h := Lib.hid hm3; have hlt3 := hm3.lt; obtain ⟨x3a, x3b, x3c, x3d⟩ := hm3.cells; clear hm3)
    | (with_reducible refine wp_serial (by kernel_rfl) (by kernel_rfl) (by repeat with_reducible (first | apply NoBad.then | apply NoBad.inBlock | apply NoBad.jump | exact NoBad.rets)) ?_) | fail)
  all_goals go_returns
  all_goals exact ⟨rfl, hm3h.out.to0 (by repeat first | with_reducible (first | exact Upd.refl _ _ | assumption | apply Upd.drew | apply Upd.alloc) | refine Upd0.tr ?_ (by with_reducible assumption) | refine Upd.setCell ?_ (fun h => absurd h (by first | exact Nat.lt_irrefl _ | (simp only []; omega))) _), ((UpdT.of0 (by repeat first | with_reducible (first | exact Upd.refl _ _ | assumption | apply Upd.drew | apply Upd.alloc) | refine Upd0.tr ?_ (by with_reducible assumption) | refine Upd.setCell ?_ (fun h => absurd h (by first | exact Nat.lt_irrefl _ | (simp only []; omega))) _)).tr (hu1.tr ((UpdT.of0 (by repeat first | with_reducible (first | exact Upd.refl _ _ | assumption | apply Upd.drew | apply Upd.alloc) | refine Upd0.tr ?_ (by with_reducible assumption) | refine Upd.setCell ?_ (fun h => absurd h (by first | exact Nat.lt_irrefl _ | (simp only []; omega))) _)).tr (hu2.tr ((UpdT.of0 (by repeat first | with_reducible (first | exact Upd.refl _ _ | assumption | apply Upd.drew | apply Upd.alloc) | refine Upd0.tr ?_ (by with_reducible assumption) | refine Upd.setCell ?_ (fun h => absurd h (by first | exact Nat.lt_irrefl _ | (simp only []; omega))) _)).tr (hu3.tr (UpdT.of0 (by repeat first | with_reducible (first | exact Upd.refl _ _ | assumption | apply Upd.drew | apply Upd.alloc) | refine Upd0.tr ?_ (by with_reducible assumption) | refine Upd.setCell ?_ (fun h => absurd h (by first | exact Nat.lt_irrefl _ | (simp only []; omega))) _))))))))⟩
set_option maxRecDepth 100000 in
theorem data_h12 (t : Nat) (s : Bs) (r : Rk) (n : Nat) (w : World) (h : RkM w t s r) (hs : s.length ≤ 70000) (hp : r.p ≤ 70000) (hn : n ≤ 65535) (he : (r.want (decide (r.p + n ≤ s.length)) 3).e = 0) :
    Calls Try.prog 70 #[.pointer (some ⟨t, 0, none⟩), .int .i64 12, .int .i64 n] w (Rets fun v w' => v = .string ⟨(daS s r 12 n).toArray⟩ ∧ RkM w' t s (daR s r 12 n) ∧ UpdT t w w') := by
  obtain ⟨c0, c1, c2, c3⟩ := h.cells
  have hh := Lib.hid h
  have hlt := h.lt
  have hW1 := Lib.hid (fun (is : Bool) (w' : World) (h : RkM w' t s r) (hb : is = decide (r.p + n ≤ s.length)) => want_is t s r is (decide (r.p + n ≤ s.length)) 3 (by decide) w' h hb)
  have hp1 : (r.want (decide (r.p + n ≤ s.length)) 3).p ≤ 70000 := by rw [Rk.want_p]; exact hp
  have hy : daY s r 12 n = daX s (r.want (decide (r.p + n ≤ s.length)) 3) 12 n := by rw [daY, if_pos he]
  rw [daS, daR, if_pos he, hy]
  rw [decide_eq_true he] at hW1
  clear hy
  obtain ⟨r1, hr1⟩ : ∃ r1, r.want (decide (r.p + n ≤ s.length)) 3 = r1 := ⟨_, rfl⟩
  rw [hr1] at hW1 hp1 ⊢
  have hx : daX s r1 12 n = (hoS s r1, hoR s r1) := by rw [daX, if_pos (by decide)]
  rw [hx]
  clear h he hr1 hx
  have hH := Lib.hid (fun (w' : World) (h : RkM w' t s r1) => rhost_dw t s r1 w' h hs hp1)
  have hl1 := hoS_len hs hp1
  have hp2 := hoR_p hs hp1
  obtain ⟨l, hl⟩ : ∃ l, hoS s r1 = l := ⟨_, rfl⟩
  obtain ⟨r2, hr2⟩ : ∃ r2, hoR s r1 = r2 := ⟨_, rfl⟩
  rw [hl] at hl1
  rw [hr2] at hp2
  rw [hl, hr2] at hH
  simp only [hl, hr2]
  have hWz := Lib.hid (fun (is : Bool) (w' : World) (h : RkM w' t s r2) (hb : is = decide (r2.p = r.p + n)) => want_is t s r2 is (decide (r2.p = r.p + n)) 2 (by decide) w' h hb)
  clear hl hr2
  have tk1 : True := trivial
  have tk2 : True := trivial
  have tk3 : True := trivial
  go_enter Try.func70, Try.ntmps70
  go_wp2_with (first
    | (go_at_call 50; have _t := tk1; clear tk1 _t; (with_reducible refine (hW1.out _ _ (hh.out.to0 (by repeat first | with_reducible (first | exact Upd.refl _ _ | assumption | apply Upd.drew | apply Upd.alloc) | refine Upd0.tr ?_ (by with_reducible assumption) | refine Upd.setCell ?_ (fun h => absurd h (by first | exact Nat.lt_irrefl _ | (simp only []; omega))) _)) (by first | rfl | exact decide_eq_decide.2 (by omega))).use ?_); rintro v w1 ⟨rfl, hm1, hu1⟩; have hm1h := Lib.hid hm1; have hlt1 := hm1.lt; obtain ⟨x1a, x1b, x1c, x1d⟩ := hm1.cells; clear hm1)
    | (go_at_call 83; (with_reducible refine (hH.out _ (hm1h.out.to0 (by repeat first | with_reducible (first | exact Upd.refl _ _ | assumption | apply Upd.drew | apply Upd.alloc) | refine Upd0.tr ?_ (by with_reducible assumption) | refine Upd.setCell ?_ (fun h => absurd h (by first | exact Nat.lt_irrefl _ | (simp only []; omega))) _))).use ?_); rintro v w2 ⟨rfl, hm2, hu2⟩; have hm2h := Lib.hid hm2; have hlt2 := hm2.lt; obtain ⟨x2a, x2b, x2c, x2d⟩ := hm2.cells; clear hm2)
    | (go_at_call 50; (with_reducible refine (hWz.out _ _ (hm2h.out.to0 (by repeat first | with_reducible (first | exact Upd.refl _ _ | assumption | apply Upd.drew | apply Upd.alloc) | refine Upd0.tr ?_ (by with_reducible assumption) | refine Upd.setCell ?_ (fun h => absurd h (by first | exact Nat.lt_irrefl _ | (simp only []; omega))) _)) (eq_is _ _ _)).use ?_); rintro v w3 ⟨rfl, hm3, hu3⟩; have hm3h := Lib.hid hm3; have hlt3 := hm3.lt; obtain ⟨x3a, x3b, x3c, x3d⟩ := hm3.cells; clear hm3)
    | (with_reducible refine wp_serial (by kernel_rfl) (by kernel_rfl) (by repeat with_reducible (first | apply NoBad.then | apply NoBad.inBlock | apply NoBad.jump | exact NoBad.rets)) ?_) | fail)
  all_goals go_returns
  all_goals exact ⟨rfl, hm3h.out.to0 (by repeat first | with_reducible (first | exact Upd.refl _ _ | assumption | apply Upd.drew | apply Upd.alloc) | refine Upd0.tr ?_ (by with_reducible assumption) | refine Upd.setCell ?_ (fun h => absurd h (by first | exact Nat.lt_irrefl _ | (simp only []; omega))) _), ((UpdT.of0 (by repeat first | with_reducible (first | exact Upd.refl _ _ | assumption | apply Upd.drew | apply Upd.alloc) | refine Upd0.tr ?_ (by with_reducible assumption) | refine Upd.setCell ?_ (fun h => absurd h (by first | exact Nat.lt_irrefl _ | (simp only []; omega))) _)).tr (hu1.tr ((UpdT.of0 (by repeat first | with_reducible (first | exact Upd.refl _ _ | assumption | apply Upd.drew | apply Upd.alloc) | refine Upd0.tr ?_ (by with_reducible assumption) | refine Upd.setCell ?_ (fun h => absurd h (by first | exact Nat.lt_irrefl _ | (simp only []; omega))) _)).tr (hu2.tr ((UpdT.of0 (by repeat first | with_reducible (first | exact Upd.refl _ _ | assumption | apply Upd.drew | apply Upd.alloc) | refine Upd0.tr ?_ (by with_reducible assumption) | refine Upd.setCell ?_ (fun h => absurd h (by first | exact Nat.lt_irrefl _ | (simp only []; omega))) _)).tr (hu3.tr (UpdT.of0 (by repeat first | with_reducible (first | exact Upd.refl _ _ | assumption | apply Upd.drew | apply Upd.alloc) | refine Upd0.tr ?_ (by with_reducible assumption) | refine Upd.setCell ?_ (fun h => absurd h (by first | exact Nat.lt_irrefl _ | (simp only []; omega))) _))))))))⟩
set_option maxRecDepth 100000 in
theorem data_h15 (t : Nat) (s : Bs) (r : Rk) (n : Nat) (w : World) (h : RkM w t s r) (hs : s.length ≤ 70000) (hp : r.p ≤ 70000) (hn : n ≤ 65535) (he : (r.want (decide (r.p + n ≤ s.length)) 3).e = 0) :
    Calls Try.prog 70 #[.pointer (some ⟨t, 0, none⟩), .int .i64 15, .int .i64 n] w (Rets fun v w' => v = .string ⟨(daS s r 15 n).toArray⟩ ∧ RkM w' t s (daR s r 15 n) ∧ UpdT t w w') := by
  obtain ⟨c0, c1, c2, c3⟩ := h.cells
  have hh := Lib.hid h
  have hlt := h.lt
  have hW1 := Lib.hid (fun (is : Bool) (w' : World) (h : RkM w' t s r) (hb : is = decide (r.p + n ≤ s.length)) => want_is t s r is (decide (r.p + n ≤ s.length)) 3 (by decide) w' h hb)
  have hp1 : (r.want (decide (r.p + n ≤ s.length)) 3).p ≤ 70000 := by rw [Rk.want_p]; exact hp
  have hy : daY s r 15 n = daX s (r.want (decide (r.p + n ≤ s.length)) 3) 15 n := by rw [daY, if_pos he]
  rw [daS, daR, if_pos he, hy]
  rw [decide_eq_true he] at hW1
  clear hy
  obtain ⟨r1, hr1⟩ : ∃ r1, r.want (decide (r.p + n ≤ s.length)) 3 = r1 := ⟨_, rfl⟩
  rw [hr1] at hW1 hp1 ⊢
  have hx : daX s r1 15 n = (takS s r1 2 ++ hoS s (takR s r1 2), hoR s (takR s r1 2)) := by rw [daX, if_neg (by decide), if_pos rfl]
  rw [hx]
  clear h he hr1 hx
  have hT := Lib.hid (fun (w' : World) (h : RkM w' t s r1) => take2_w t s r1 w' h hs hp1)
  have hl1 := takS_len s r1 2
  have hp2 := takR_p s r1 2 hp1 hs
  obtain ⟨l, hl⟩ : ∃ l, takS s r1 2 = l := ⟨_, rfl⟩
  obtain ⟨r2, hr2⟩ : ∃ r2, takR s r1 2 = r2 := ⟨_, rfl⟩
  rw [hl] at hl1
  rw [hr2] at hp2
  rw [hl, hr2] at hT
  simp only [hl, hr2]
  have hH := Lib.hid (fun (w' : World) (h : RkM w' t s r2) => rhost_dw t s r2 w' h hs hp2)
  have hl2 := hoS_len hs hp2
  have hp3 := hoR_p hs hp2
  obtain ⟨l2, hll2⟩ : ∃ l, hoS s r2 = l := ⟨_, rfl⟩
  obtain ⟨r3, hr3⟩ : ∃ r3, hoR s r2 = r3 := ⟨_, rfl⟩
  rw [hll2] at hl2
  rw [hr3] at hp3
  rw [hll2, hr3] at hH
  simp only [hll2, hr3]
  have hWz := Lib.hid (fun (is : Bool) (w' : World) (h : RkM w' t s r3) (hb : is = decide (r3.p = r.p + n)) => want_is t s r3 is (decide (r3.p = r.p + n)) 2 (by decide) w' h hb)
  clear hl hr2 hll2 hr3
  have tk1 : True := trivial
  have tk2 : True := trivial
  have tk3 : True := trivial
  go_enter Try.func70, Try.ntmps70
  go_wp2_with (first
    | (go_at_call 50; have _t := tk1; clear tk1 _t; (with_reducible refine (hW1.out _ _ (hh.out.to0 (by repeat first | with_reducible (first | exact Upd.refl _ _ | assumption | apply Upd.drew | apply Upd.alloc) | refine Upd0.tr ?_ (by with_reducible assumption) | refine Upd.setCell ?_ (fun h => absurd h (by first | exact Nat.lt_irrefl _ | (simp only []; omega))) _)) (by first | rfl | exact decide_eq_decide.2 (by omega))).use ?_); rintro v w1 ⟨rfl, hm1, hu1⟩; have hm1h := Lib.hid hm1; have hlt1 := hm1.lt; obtain ⟨x1a, x1b, x1c, x1d⟩ := hm1.cells; clear hm1)
    | (go_at_call 69; (with_reducible refine (hT.out _ (hm1h.out.to0 (by repeat first | with_reducible (first | exact Upd.refl _ _ | assumption | apply Upd.drew | apply Upd.alloc) | refine Upd0.tr ?_ (by with_reducible assumption) | refine Upd.setCell ?_ (fun h => absurd h (by first | exact Nat.lt_irrefl _ | (simp only []; omega))) _))).use ?_); rintro v w2 ⟨rfl, hm2, hu2⟩; have hm2h := Lib.hid hm2; have hlt2 := hm2.lt; obtain ⟨x2a, x2b, x2c, x2d⟩ := hm2.cells; clear hm2)
    | (go_at_call 83; (with_reducible refine (hH.out _ (hm2h.out.to0 (by repeat first | with_reducible (first | exact Upd.refl _ _ | assumption | apply Upd.drew | apply Upd.alloc) | refine Upd0.tr ?_ (by with_reducible assumption) | refine Upd.setCell ?_ (fun h => absurd h (by first | exact Nat.lt_irrefl _ | (simp only []; omega))) _))).use ?_); rintro v w3 ⟨rfl, hm3, hu3⟩; have hm3h := Lib.hid hm3; have hlt3 := hm3.lt; obtain ⟨x3a, x3b, x3c, x3d⟩ := hm3.cells; clear hm3)
    | (go_at_call 50; (with_reducible refine (hWz.out _ _ (hm3h.out.to0 (by repeat first | with_reducible (first | exact Upd.refl _ _ | assumption | apply Upd.drew | apply Upd.alloc) | refine Upd0.tr ?_ (by with_reducible assumption) | refine Upd.setCell ?_ (fun h => absurd h (by first | exact Nat.lt_irrefl _ | (simp only []; omega))) _)) (eq_is _ _ _)).use ?_); rintro v w4 ⟨rfl, hm4, hu4⟩; have hm4h := Lib.hid hm4; have hlt4 := hm4.lt; obtain ⟨x4a, x4b, x4c, x4d⟩ := hm4.cells; clear hm4)
    | (with_reducible refine wp_serial (by kernel_rfl) (by kernel_rfl) (by repeat with_reducible (first | apply NoBad.then | apply NoBad.inBlock | apply NoBad.jump | exact NoBad.rets)) ?_) | fail)
  all_goals go_returns
  all_goals exact ⟨rfl, hm4h.out.to0 (by repeat first | with_reducible (first | exact Upd.refl _ _ | assumption | apply Upd.drew | apply Upd.alloc) | refine Upd0.tr ?_ (by with_reducible assumption) | refine Upd.setCell ?_ (fun h => absurd h (by first | exact Nat.lt_irrefl _ | (simp only []; omega))) _), ((UpdT.of0 (by repeat first | with_reducible (first | exact Upd.refl _ _ | assumption | apply Upd.drew | apply Upd.alloc) | refine Upd0.tr ?_ (by with_reducible assumption) | refine Upd.setCell ?_ (fun h => absurd h (by first | exact Nat.lt_irrefl _ | (simp only []; omega))) _)).tr (hu1.tr ((UpdT.of0 (by repeat first | with_reducible (first | exact Upd.refl _ _ | assumption | apply Upd.drew | apply Upd.alloc) | refine Upd0.tr ?_ (by with_reducible assumption) | refine Upd.setCell ?_ (fun h => absurd h (by first | exact Nat.lt_irrefl _ | (simp only []; omega))) _)).tr (hu2.tr ((UpdT.of0 (by repeat first | with_reducible (first | exact Upd.refl _ _ | assumption | apply Upd.drew | apply Upd.alloc) | refine Upd0.tr ?_ (by with_reducible assumption) | refine Upd.setCell ?_ (fun h => absurd h (by first | exact Nat.lt_irrefl _ | (simp only []; omega))) _)).tr (hu3.tr ((UpdT.of0 (by repeat first | with_reducible (first | exact Upd.refl _ _ | assumption | apply Upd.drew | apply Upd.alloc) | refine Upd0.tr ?_ (by with_reducible assumption) | refine Upd.setCell ?_ (fun h => absurd h (by first | exact Nat.lt_irrefl _ | (simp only []; omega))) _)).tr (hu4.tr (UpdT.of0 (by repeat first | with_reducible (first | exact Upd.refl _ _ | assumption | apply Upd.drew | apply Upd.alloc) | refine Upd0.tr ?_ (by with_reducible assumption) | refine Upd.setCell ?_ (fun h => absurd h (by first | exact Nat.lt_irrefl _ | (simp only []; omega))) _))))))))))⟩
set_option maxRecDepth 100000 in
theorem data_h6 (t : Nat) (s : Bs) (r : Rk) (n : Nat) (w : World) (h : RkM w t s r) (hs : s.length ≤ 70000) (hp : r.p ≤ 70000) (hn : n ≤ 65535) (he : (r.want (decide (r.p + n ≤ s.length)) 3).e = 0) :
    Calls Try.prog 70 #[.pointer (some ⟨t, 0, none⟩), .int .i64 6, .int .i64 n] w (Rets fun v w' => v = .string ⟨(daS s r 6 n).toArray⟩ ∧ RkM w' t s (daR s r 6 n) ∧ UpdT t w w') := by
  obtain ⟨c0, c1, c2, c3⟩ := h.cells
  have hh := Lib.hid h
  have hlt := h.lt
  have hW1 := Lib.hid (fun (is : Bool) (w' : World) (h : RkM w' t s r) (hb : is = decide (r.p + n ≤ s.length)) => want_is t s r is (decide (r.p + n ≤ s.length)) 3 (by decide) w' h hb)
  have hp1 : (r.want (decide (r.p + n ≤ s.length)) 3).p ≤ 70000 := by rw [Rk.want_p]; exact hp
  have hy : daY s r 6 n = daX s (r.want (decide (r.p + n ≤ s.length)) 3) 6 n := by rw [daY, if_pos he]
  rw [daS, daR, if_pos he, hy]
  rw [decide_eq_true he] at hW1
  clear hy
  obtain ⟨r1, hr1⟩ : ∃ r1, r.want (decide (r.p + n ≤ s.length)) 3 = r1 := ⟨_, rfl⟩
  rw [hr1] at hW1 hp1 ⊢
  have hx : daX s r1 6 n = (hoS s r1 ++ (hoS s (hoR s r1) ++ takS s (hoR s (hoR s r1)) 20), takR s (hoR s (hoR s r1)) 20) := by rw [daX, if_neg (by decide), if_neg (by decide), if_pos rfl]
  rw [hx]
  clear h he hr1 hx
  have hH := Lib.hid (fun (w' : World) (h : RkM w' t s r1) => rhost_dw t s r1 w' h hs hp1)
  have hl1 := hoS_len hs hp1
  have hp2 := hoR_p hs hp1
  obtain ⟨l, hl⟩ : ∃ l, hoS s r1 = l := ⟨_, rfl⟩
  obtain ⟨r2, hr2⟩ : ∃ r2, hoR s r1 = r2 := ⟨_, rfl⟩
  rw [hl] at hl1
  rw [hr2] at hp2
  rw [hl, hr2] at hH
  simp only [hl, hr2]
  have hH2 := Lib.hid (fun (w' : World) (h : RkM w' t s r2) => rhost_dw t s r2 w' h hs hp2)
  have hl2 := hoS_len hs hp2
  have hp3 := hoR_p hs hp2
  obtain ⟨l2, hll2⟩ : ∃ l, hoS s r2 = l := ⟨_, rfl⟩
  obtain ⟨r3, hr3⟩ : ∃ r3, hoR s r2 = r3 := ⟨_, rfl⟩
  rw [hll2] at hl2
  rw [hr3] at hp3
  rw [hll2, hr3] at hH2
  simp only [hll2, hr3]
  have hT := Lib.hid (fun (w' : World) (h : RkM w' t s r3) => take20_w t s r3 w' h hs hp3)
  have hl3 := takS_len s r3 20
  have hp4 := takR_p s r3 20 hp3 hs
  obtain ⟨l3, hll3⟩ : ∃ l, takS s r3 20 = l := ⟨_, rfl⟩
  obtain ⟨r4, hr4⟩ : ∃ r4, takR s r3 20 = r4 := ⟨_, rfl⟩
  rw [hll3] at hl3
  rw [hr4] at hp4
  rw [hll3, hr4] at hT
  simp only [hll3, hr4]
  have hWz := Lib.hid (fun (is : Bool) (w' : World) (h : RkM w' t s r4) (hb : is = decide (r4.p = r.p + n)) => want_is t s r4 is (decide (r4.p = r.p + n)) 2 (by decide) w' h hb)
  clear hl hr2 hll2 hr3 hll3 hr4
  have tk1 : True := trivial
  have tk2 : True := trivial
  have tk3 : True := trivial
  go_enter Try.func70, Try.ntmps70
  go_wp2_with (first
    | (go_at_call 50; have _t := tk1; clear tk1 _t; (with_reducible refine (hW1.out _ _ (hh.out.to0 (by repeat first | with_reducible (first | exact Upd.refl _ _ | assumption | apply Upd.drew | apply Upd.alloc) | refine Upd0.tr ?_ (by with_reducible assumption) | refine Upd.setCell ?_ (fun h => absurd h (by first | exact Nat.lt_irrefl _ | (simp only []; omega))) _)) (by first | rfl | exact decide_eq_decide.2 (by omega))).use ?_); rintro v w1 ⟨rfl, hm1, hu1⟩; have hm1h := Lib.hid hm1; have hlt1 := hm1.lt; obtain ⟨x1a, x1b, x1c, x1d⟩ := hm1.cells; clear hm1)
    | (go_at_call 83; have _t := tk2; clear tk2 _t; (with_reducible refine (hH.out _ (hm1h.out.to0 (by repeat first | with_reducible (first | exact Upd.refl _ _ | assumption | apply Upd.drew | apply Upd.alloc) | refine Upd0.tr ?_ (by with_reducible assumption) | refine Upd.setCell ?_ (fun h => absurd h (by first | exact Nat.lt_irrefl _ | (simp only []; omega))) _))).use ?_); rintro v w2 ⟨rfl, hm2, hu2⟩; have hm2h := Lib.hid hm2; have hlt2 := hm2.lt; obtain ⟨x2a, x2b, x2c, x2d⟩ := hm2.cells; clear hm2)
    | (go_at_call 83; (with_reducible refine (hH2.out _ (hm2h.out.to0 (by repeat first | with_reducible (first | exact Upd.refl _ _ | assumption | apply Upd.drew | apply Upd.alloc) | refine Upd0.tr ?_ (by with_reducible assumption) | refine Upd.setCell ?_ (fun h => absurd h (by first | exact Nat.lt_irrefl _ | (simp only []; omega))) _))).use ?_); rintro v w3 ⟨rfl, hm3, hu3⟩; have hm3h := Lib.hid hm3; have hlt3 := hm3.lt; obtain ⟨x3a, x3b, x3c, x3d⟩ := hm3.cells; clear hm3)
    | (go_at_call 69; (with_reducible refine (hT.out _ (hm3h.out.to0 (by repeat first | with_reducible (first | exact Upd.refl _ _ | assumption | apply Upd.drew | apply Upd.alloc) | refine Upd0.tr ?_ (by with_reducible assumption) | refine Upd.setCell ?_ (fun h => absurd h (by first | exact Nat.lt_irrefl _ | (simp only []; omega))) _))).use ?_); rintro v w4 ⟨rfl, hm4, hu4⟩; have hm4h := Lib.hid hm4; have hlt4 := hm4.lt; obtain ⟨x4a, x4b, x4c, x4d⟩ := hm4.cells; clear hm4)
    | (go_at_call 50; (with_reducible refine (hWz.out _ _ (hm4h.out.to0 (by repeat first | with_reducible (first | exact Upd.refl _ _ | assumption | apply Upd.drew | apply Upd.alloc) | refine Upd0.tr ?_ (by with_reducible assumption) | refine Upd.setCell ?_ (fun h => absurd h (by first | exact Nat.lt_irrefl _ | (simp only []; omega))) _)) (eq_is _ _ _)).use ?_); rintro v w5 ⟨rfl, hm5, hu5⟩; have hm5h := Lib.hid hm5; have hlt5 := hm5.lt; obtain ⟨x5a, x5b, x5c, x5d⟩ := hm5.cells; clear hm5)
    | (with_reducible refine wp_serial (by kernel_rfl) (by kernel_rfl) (by repeat with_reducible (first | apply NoBad.then | apply NoBad.inBlock | apply NoBad.jump | exact NoBad.rets)) ?_) | fail)
  all_goals go_returns
  all_goals exact ⟨rfl, hm5h.out.to0 (by repeat first | with_reducible (first | exact Upd.refl _ _ | assumption | apply Upd.drew | apply Upd.alloc) | refine Upd0.tr ?_ (by with_reducible assumption) | refine Upd.setCell ?_ (fun h => absurd h (by first | exact Nat.lt_irrefl _ | (simp only []; omega))) _), ((UpdT.of0 (by repeat first | with_reducible (first | exact Upd.refl _ _ | assumption | apply Upd.drew | apply Upd.alloc) | refine Upd0.tr ?_ (by with_reducible assumption) | refine Upd.setCell ?_ (fun h => absurd h (by first | exact Nat.lt_irrefl _ | (simp only []; omega))) _)).tr (hu1.tr ((UpdT.of0 (by repeat first | with_reducible (first | exact Upd.refl _ _ | assumption | apply Upd.drew | apply Upd.alloc) | refine Upd0.tr ?_ (by with_reducible assumption) | refine Upd.setCell ?_ (fun h => absurd h (by first | exact Nat.lt_irrefl _ | (simp only []; omega))) _)).tr (hu2.tr ((UpdT.of0 (by repeat first | with_reducible (first | exact Upd.refl _ _ | assumption | apply Upd.drew | apply Upd.alloc) | refine Upd0.tr ?_ (by with_reducible assumption) | refine Upd.setCell ?_ (fun h => absurd h (by first | exact Nat.lt_irrefl _ | (simp only []; omega))) _)).tr (hu3.tr ((UpdT.of0 (by repeat first | with_reducible (first | exact Upd.refl _ _ | assumption | apply Upd.drew | apply Upd.alloc) | refine Upd0.tr ?_ (by with_reducible assumption) | refine Upd.setCell ?_ (fun h => absurd h (by first | exact Nat.lt_irrefl _ | (simp only []; omega))) _)).tr (hu4.tr ((UpdT.of0 (by repeat first | with_reducible (first | exact Upd.refl _ _ | assumption | apply Upd.drew | apply Upd.alloc) | refine Upd0.tr ?_ (by with_reducible assumption) | refine Upd.setCell ?_ (fun h => absurd h (by first | exact Nat.lt_irrefl _ | (simp only []; omega))) _)).tr (hu5.tr (UpdT.of0 (by repeat first | with_reducible (first | exact Upd.refl _ _ | assumption | apply Upd.drew | apply Upd.alloc) | refine Upd0.tr ?_ (by with_reducible assumption) | refine Upd.setCell ?_ (fun h => absurd h (by first | exact Nat.lt_irrefl _ | (simp only []; omega))) _))))))))))))⟩
set_option maxRecDepth 100000 in
theorem data_else (t : Nat) (s : Bs) (r : Rk) (kind : Int) (n : Nat) (w : World) (h : RkM w t s r) (hs : s.length ≤ 70000) (hp : r.p ≤ 70000) (hn : n ≤ 65535) (he : (r.want (decide (r.p + n ≤ s.length)) 3).e = 0) (k1 : ¬ kind = 2) (k2 : ¬ kind = 5) (k3 : ¬ kind = 12) (k4 : ¬ kind = 15) (k5 : ¬ kind = 6) :
    Calls Try.prog 70 #[.pointer (some ⟨t, 0, none⟩), .int .i64 kind, .int .i64 n] w (Rets fun v w' => v = .string ⟨(daS s r kind n).toArray⟩ ∧ RkM w' t s (daR s r kind n) ∧ UpdT t w w') := by
  obtain ⟨c0, c1, c2, c3⟩ := h.cells
  have hh := Lib.hid h
  have hlt := h.lt
  have hW1 := Lib.hid (fun (is : Bool) (w' : World) (h : RkM w' t s r) (hb : is = decide (r.p + n ≤ s.length)) => want_is t s r is (decide (r.p + n ≤ s.length)) 3 (by decide) w' h hb)
  have hp1 : (r.want (decide (r.p + n ≤ s.length)) 3).p ≤ 70000 := by rw [Rk.want_p]; exact hp
  have hy : daY s r kind n = daX s (r.want (decide (r.p + n ≤ s.length)) 3) kind n := by rw [daY, if_pos he]
  rw [daS, daR, if_pos he, hy]
  rw [decide_eq_true he] at hW1
  clear hy
  obtain ⟨r1, hr1⟩ : ∃ r1, r.want (decide (r.p + n ≤ s.length)) 3 = r1 := ⟨_, rfl⟩
  rw [hr1] at hW1 hp1 ⊢
  have hx : daX s r1 kind n = (takS s r1 n, takR s r1 n) := by rw [daX, if_neg (by omega), if_neg k4, if_neg k5]
  rw [hx]
  clear h he hr1 hx
  have hT := Lib.hid (fun (w' : World) (h : RkM w' t s r1) => take_w t s r1 n w' h hs hp1 (by omega))
  have hl1 := takS_len s r1 n
  have hp2 := takR_p s r1 n hp1 hs
  obtain ⟨l, hl⟩ : ∃ l, takS s r1 n = l := ⟨_, rfl⟩
  obtain ⟨r2, hr2⟩ : ∃ r2, takR s r1 n = r2 := ⟨_, rfl⟩
  rw [hl] at hl1
  rw [hr2] at hp2
  rw [hl, hr2] at hT
  simp only [hl, hr2]
  have hWz := Lib.hid (fun (is : Bool) (w' : World) (h : RkM w' t s r2) (hb : is = decide (r2.p = r.p + n)) => want_is t s r2 is (decide (r2.p = r.p + n)) 2 (by decide) w' h hb)
  clear hl hr2
  have tk1 : True := trivial
  have tk2 : True := trivial
  have tk3 : True := trivial
  go_enter Try.func70, Try.ntmps70
  go_wp2_with (first
    | (go_at_call 50; have _t := tk1; clear tk1 _t; (with_reducible refine (hW1.out _ _ (hh.out.to0 (by repeat first | with_reducible (first | exact Upd.refl _ _ | assumption | apply Upd.drew | apply Upd.alloc) | refine Upd0.tr ?_ (by with_reducible assumption) | refine Upd.setCell ?_ (fun h => absurd h (by first | exact Nat.lt_irrefl _ | (simp only []; omega))) _)) (by first | rfl | exact decide_eq_decide.2 (by omega))).use ?_); rintro v w1 ⟨rfl, hm1, hu1⟩; have hm1h := Lib.hid hm1; have hlt1 := hm1.lt; obtain ⟨x1a, x1b, x1c, x1d⟩ := hm1.cells; clear hm1)
    | (go_at_call 69; (with_reducible refine (hT.out _ (hm1h.out.to0 (by repeat first | with_reducible (first | exact Upd.refl _ _ | assumption | apply Upd.drew | apply Upd.alloc) | refine Upd0.tr ?_ (by with_reducible assumption) | refine Upd.setCell ?_ (fun h => absurd h (by first | exact Nat.lt_irrefl _ | (simp only []; omega))) _))).use ?_); rintro v w2 ⟨rfl, hm2, hu2⟩; have hm2h := Lib.hid hm2; have hlt2 := hm2.lt; obtain ⟨x2a, x2b, x2c, x2d⟩ := hm2.cells; clear hm2)
    | (go_at_call 50; (with_reducible refine (hWz.out _ _ (hm2h.out.to0 (by repeat first | with_reducible (first | exact Upd.refl _ _ | assumption | apply Upd.drew | apply Upd.alloc) | refine Upd0.tr ?_ (by with_reducible assumption) | refine Upd.setCell ?_ (fun h => absurd h (by first | exact Nat.lt_irrefl _ | (simp only []; omega))) _)) (eq_is _ _ _)).use ?_); rintro v w3 ⟨rfl, hm3, hu3⟩; have hm3h := Lib.hid hm3; have hlt3 := hm3.lt; obtain ⟨x3a, x3b, x3c, x3d⟩ := hm3.cells; clear hm3)
    | (with_reducible refine wp_serial (by kernel_rfl) (by kernel_rfl) (by repeat with_reducible (first | apply NoBad.then | apply NoBad.inBlock | apply NoBad.jump | exact NoBad.rets)) ?_) | fail)
  all_goals go_returns
  all_goals exact ⟨rfl, hm3h.out.to0 (by repeat first | with_reducible (first | exact Upd.refl _ _ | assumption | apply Upd.drew | apply Upd.alloc) | refine Upd0.tr ?_ (by with_reducible assumption) | refine Upd.setCell ?_ (fun h => absurd h (by first | exact Nat.lt_irrefl _ | (simp only []; omega))) _), ((UpdT.of0 (by repeat first | with_reducible (first | exact Upd.refl _ _ | assumption | apply Upd.drew | apply Upd.alloc) | refine Upd0.tr ?_ (by with_reducible assumption) | refine Upd.setCell ?_ (fun h => absurd h (by first | exact Nat.lt_irrefl _ | (simp only []; omega))) _)).tr (hu1.tr ((UpdT.of0 (by repeat first | with_reducible (first | exact Upd.refl _ _ | assumption | apply Upd.drew | apply Upd.alloc) | refine Upd0.tr ?_ (by with_reducible assumption) | refine Upd.setCell ?_ (fun h => absurd h (by first | exact Nat.lt_irrefl _ | (simp only []; omega))) _)).tr (hu2.tr ((UpdT.of0 (by repeat first | with_reducible (first | exact Upd.refl _ _ | assumption | apply Upd.drew | apply Upd.alloc) | refine Upd0.tr ?_ (by with_reducible assumption) | refine Upd.setCell ?_ (fun h => absurd h (by first | exact Nat.lt_irrefl _ | (simp only []; omega))) _)).tr (hu3.tr (UpdT.of0 (by repeat first | with_reducible (first | exact Upd.refl _ _ | assumption | apply Upd.drew | apply Upd.alloc) | refine Upd0.tr ?_ (by with_reducible assumption) | refine Upd.setCell ?_ (fun h => absurd h (by first | exact Nat.lt_irrefl _ | (simp only []; omega))) _))))))))⟩
theorem data_w3 (t : Nat) (s : Bs) (r : Rk) (kind : Int) (n : Nat) (w : World) (h : RkM w t s r) (hs : s.length ≤ 70000) (hp : r.p ≤ 70000) (hn : n ≤ 65535) :
    Calls Try.prog 70 #[.pointer (some ⟨t, 0, none⟩), .int .i64 kind, .int .i64 n] w (Rets fun v w' => v = .string ⟨(daS s r kind n).toArray⟩ ∧ RkM w' t s (daR s r kind n) ∧ UpdT t w w') := by
  by_cases he : (r.want (decide (r.p + n ≤ s.length)) 3).e = 0
  · by_cases k1 : kind = 2
    · subst k1; exact data_h2 t s r n w h hs hp hn he
    · by_cases k2 : kind = 5
      · subst k2; exact data_h5 t s r n w h hs hp hn he
      · by_cases k3 : kind = 12
        · subst k3; exact data_h12 t s r n w h hs hp hn he
        · by_cases k4 : kind = 15
          · subst k4; exact data_h15 t s r n w h hs hp hn he
          · by_cases k5 : kind = 6
            · subst k5; exact data_h6 t s r n w h hs hp hn he
            · exact data_else t s r kind n w h hs hp hn he k1 k2 k3 k4 k5
  · exact data_bad t s r kind n w h hs hp hn he
end Go.Proofs.Ytgdejgfmhndbhaa
