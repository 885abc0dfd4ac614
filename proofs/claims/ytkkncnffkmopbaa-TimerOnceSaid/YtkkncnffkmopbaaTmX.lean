/-
  The walk of TimerOnce: each timer is told once.
-/
import Derived.Test.YtkkncnffkmopbaaTmW
namespace Go.Proofs.Ytkkncnffkmopbaa
open Go.RowKit Go.Maps
set_option linter.unusedSimpArgs false
set_option linter.unusedVariables false
def setAll (l : List OpT) : List Tm := l.foldl (fun L o => setL L o.nm o.at_) []
def lastA (l : List OpT) (x : Bs) : Int := l.foldl (fun c o => if o.nm = x then o.at_ else c) (-1)
theorem setAll_snoc (l : List OpT) (o : OpT) : setAll (l ++ [o]) = setL (setAll l) o.nm o.at_ := by simp [setAll, List.foldl_append]
theorem lastA_snoc (l : List OpT) (o : OpT) (x : Bs) : lastA (l ++ [o]) x = if o.nm = x then o.at_ else lastA l x := by simp [lastA, List.foldl_append]
theorem take_snoc {α : Type} {l : List α} {k : Nat} {x : α} (hx : l[k]? = some x) : l.take (k + 1) = l.take k ++ [x] := by
  have hk := (List.getElem?_eq_some_iff.1 hx).1
  rw [List.take_succ_eq_append_getElem hk]; congr 2; exact (List.getElem?_eq_some_iff.1 hx).2
theorem snoc_ind {α : Type} {p : List α → Prop} (h0 : p []) (h1 : ∀ l o, p l → p (l ++ [o])) (l : List α) : p l := by
  rw [← List.reverse_reverse l]
  induction l.reverse with
  | nil => exact h0
  | cons a l ih => rw [List.reverse_cons]; exact h1 _ _ ih
theorem setAll_len (l : List OpT) : (setAll l).length ≤ l.length := by
  refine snoc_ind (p := fun l => (setAll l).length ≤ l.length) ?_ (fun l o ih => ?_) l
  · simp [setAll]
  · rw [setAll_snoc, setL_len, List.length_append]
    have := stopL_len (setAll l) o.nm
    simp; omega
theorem setAll_last (l : List OpT) : ∀ t ∈ setAll l, lastA l t.n = t.a := by
  refine snoc_ind (p := fun l => ∀ t ∈ setAll l, lastA l t.n = t.a) ?_ (fun l o ih => ?_) l
  · intro t ht; simp [setAll] at ht
  · intro t ht
    rw [setAll_snoc] at ht
    rw [lastA_snoc]
    rcases List.mem_cons.1 ((setL_perm _ _ _).mem_iff.1 ht) with rfl | ht
    · simp
    · have h1 := stopL_no t ht
      rw [if_neg (fun e => h1 e.symm)]
      exact ih t (List.mem_filter.1 ht).1
theorem setAll_bound (l : List OpT) (h : ∀ o ∈ l, 0 ≤ o.at_ ∧ o.at_ ≤ 1000) : ∀ t ∈ setAll l, 0 ≤ t.a ∧ t.a ≤ 1000 := by
  revert h
  refine snoc_ind (p := fun l => (∀ o ∈ l, 0 ≤ o.at_ ∧ o.at_ ≤ 1000) → ∀ t ∈ setAll l, 0 ≤ t.a ∧ t.a ≤ 1000) ?_ (fun l o ih h => ?_) l
  · intro _ t ht; simp [setAll] at ht
  · intro t ht
    rw [setAll_snoc] at ht
    rcases List.mem_cons.1 ((setL_perm _ _ _).mem_iff.1 ht) with rfl | ht
    · exact h o (by simp)
    · exact ih (fun o ho => h o (by simp [ho])) t (List.mem_filter.1 ht).1
theorem set60_w (t bm : Nat) (L : List Tm) (x : Bs) (a : Int) (h1 : x.length ≤ 300) (h2 : 0 ≤ a) (h3 : a ≤ 1000) (hL : L.length < 1000) (w : World) (h : Qu w t bm 1000 L) : Calls Try.prog 10 #[.pointer (some ⟨t, 0, none⟩), .string ⟨x.toArray⟩, .int .i64 a] w (Rets fun r w' =>
    r = .int .i64 0 ∧ Upd (fun b => b = bm) w w' ∧ Qu w' t bm 1000 (setL L x a)) := by
  have := set_w t bm 1000 L x a (by unfold maxLen; omega) w h
  have h4 : argT x a = false := by simp only [argT, Bool.or_eq_false_iff, decide_eq_false_iff_not]; omega
  have h5 : ¬ (hasL L x = false ∧ (1000 : Int) ≤ L.length) := by rintro ⟨_, h⟩; omega
  unfold setC setT at this
  rw [h4, if_neg h5, if_neg h5] at this
  exact this
/-- what is told: its last time, not ahead of now, and behind the last Due -/
theorem told_ok {l : List OpT} {L : List Tm} {now lo : Int} (hL : ∀ t ∈ L, t ∈ setAll l ∧ lo < t.a ∧ 0 ≤ t.a) (hs : Srt L) {x : Bs} (hx : x ∈ dueN L now) : 0 ≤ lastA l x ∧ lastA l x ≤ now ∧ lo < lastA l x := by
  rw [dueN_eq hs] at hx
  obtain ⟨t, ht, rfl⟩ := List.mem_map.1 hx
  obtain ⟨h1, h2⟩ := List.mem_filter.1 ht
  obtain ⟨h3, h4, h5⟩ := hL t h1
  rw [setAll_last l t h3]
  exact ⟨h5, of_decide_eq_true h2, h4⟩
theorem due_rest {L : List Tm} {now : Int} (hs : Srt L) : ∀ t ∈ dueL L now, t ∈ L ∧ now < t.a := by
  intro t ht
  rw [(due_filter hs.1 now).2] at ht
  obtain ⟨h1, h2⟩ := List.mem_filter.1 ht
  refine ⟨h1, ?_⟩
  have : ¬ t.a ≤ now := by simpa using h2
  omega
set_option maxRecDepth 100000 in
set_option maxHeartbeats 4000000 in
theorem timerOnce_walk (ao : Option Addr) (cap : Nat) (xs : List OpT) (step : Int) (w : World) (hS : OptR w ao xs) (hlen : xs.length ≤ maxLen) :
    Calls Try.prog 5 #[.slice ao xs.length cap, .int .i64 step] w (Rets fun r w' => r = .bool true ∧ Upd0 w w') := by
  have hSh := Lib.hid hS
  clear hS
  simp only [maxLen] at hlen
  by_cases hok : xs.length ≤ 60 ∧ 1 ≤ step ∧ step ≤ 100
  case neg =>
    have hbad : 60 < xs.length ∨ (¬ 60 < xs.length ∧ step < 1) ∨ (¬ 60 < xs.length ∧ ¬ step < 1 ∧ 100 < step) := by omega
    clear hok
    rcases hbad with h1 | ⟨h1, h2⟩ | ⟨h1, h2, h3⟩
    all_goals
      go_enter Try.func5, Try.ntmps5
      go_wp2_with (first
        | (go_at_call 9; (with_reducible refine (tlive_w _).use ?_); rintro v w7 ⟨rfl, hu7⟩)
        | (with_reducible refine wp_serial (by kernel_rfl) (by kernel_rfl) (by (repeat (first | (with_reducible apply NoBad.then) | (with_reducible apply NoBad.inBlock) | (with_reducible apply NoBad.jump) | (with_reducible exact NoBad.rets))); done) ?_) | fail)
      all_goals go_returns
      all_goals exact ⟨rfl, (by (repeat (first | (with_reducible exact Upd.refl _ _) | (with_reducible assumption) | (with_reducible apply Upd.drew) | (with_reducible apply Upd.alloc) | (refine Upd0.tr ?_ (by with_reducible assumption)) | (refine Upd.setCell ?_ (fun h => absurd h (by first | exact Nat.lt_irrefl _ | (simp only []; omega))) _))); done)⟩
  obtain ⟨h60, hs1, hs2⟩ := hok
  have g1 : ¬ step < 1 := by omega
  have g2 : ¬ 100 < step := by omega
  go_enter Try.func5, Try.ntmps5
  go_wp2_with (first
    | (go_at_call 8; (with_reducible refine (timer_new 1000 (by decide) (by decide) _).use ?_); rintro v w1 ⟨t, bm, rfl, htl, hbl, hu1, hq1⟩; have k1 := Lib.hid hq1; clear hq1)
    | (with_reducible refine wp_serial (by kernel_rfl) (by kernel_rfl) (by (repeat (first | (with_reducible apply NoBad.then) | (with_reducible apply NoBad.inBlock) | (with_reducible apply NoBad.jump) | (with_reducible exact NoBad.rets))); done) ?_) | fail)
  go_loopw [7] (fun ii wr => ∃ k : Nat, k ≤ xs.length ∧ ii = .int .i64 k ∧ Upd0 w wr ∧ Hid (Qu wr t bm 1000 (setAll (xs.take k))) ∧ Hid (∀ o ∈ xs.take k, 0 ≤ o.at_ ∧ o.at_ ≤ 1000)) (fun ii _ => xs.length - (intOf ii).toNat)
  case atStart => exact ⟨0, Nat.zero_le _, rfl, hu1, k1, Lib.hid (by simp)⟩
  case round =>
    obtain ⟨k, hk, rfl, hu, hQ, hB⟩ := hrel
    by_cases hlt : k < xs.length
    · obtain ⟨x, hx⟩ : ∃ x, xs[k]? = some x := ⟨xs[k], List.getElem?_eq_getElem hlt⟩
      obtain ⟨g, o, rfl, hg, e0, e1, e2, hnm⟩ := hSh.out.some hx
      have d1 := hu.cell (fun h => h) e1
      have d2 := hu.cell (fun h => h) e2
      have hxh := Lib.hid hx
      have hLl : (setAll (xs.take k)).length < 1000 := by have := setAll_len (xs.take k); rw [List.length_take] at this; omega
      clear hx e0 e1 e2
      obtain ⟨dO, nm, at_⟩ := x
      simp only [] at d1 d2 hnm
      by_cases hin : nm.length ≤ 300 ∧ 0 ≤ at_ ∧ at_ ≤ 1000
      case neg =>
        have hbad : 300 < nm.length ∨ (¬ 300 < nm.length ∧ at_ < 0) ∨ (¬ 300 < nm.length ∧ ¬ at_ < 0 ∧ 1000 < at_) := by omega
        clear hin
        rcases hbad with h1 | ⟨h1, h2⟩ | ⟨h1, h2, h3⟩
        all_goals
          go_wp2_with (first
            | (go_at_call 9; (with_reducible refine (tlive_w _).use ?_); rintro v w7 ⟨rfl, hu7⟩)
            | (with_reducible refine wp_serial (by kernel_rfl) (by kernel_rfl) (by (repeat (first | (with_reducible apply NoBad.then) | (with_reducible apply NoBad.inBlock) | (with_reducible apply NoBad.jump) | (with_reducible exact NoBad.rets))); done) ?_) | fail)
          all_goals go_returns
          all_goals exact ⟨rfl, (by (repeat (first | (with_reducible exact Upd.refl _ _) | (with_reducible assumption) | (with_reducible apply Upd.drew) | (with_reducible apply Upd.alloc) | (refine Upd0.tr ?_ (by with_reducible assumption)) | (refine Upd.setCell ?_ (fun h => absurd h (by first | exact Nat.lt_irrefl _ | (simp only []; omega))) _))); done)⟩
      obtain ⟨h1, h2, h3⟩ := hin
      have g3 : ¬ 300 < nm.length := by omega
      have g4 : ¬ at_ < 0 := by omega
      have g5 : ¬ 1000 < at_ := by omega
      have P1 := Lib.hid (set60_w t bm (setAll (xs.take k)) nm at_ h1 h2 h3 hLl)
      have hst := Lib.hid (show setL (setAll (xs.take k)) nm at_ = setAll (xs.take (k + 1)) by rw [take_snoc hxh.out, setAll_snoc])
      have hB2 := Lib.hid (show ∀ o ∈ xs.take (k + 1), 0 ≤ o.at_ ∧ o.at_ ≤ 1000 from fun o ho => by
        rw [take_snoc hxh.out, List.mem_append] at ho
        rcases ho with ho | ho
        · exact hB.out o ho
        · rw [List.mem_singleton.1 ho]; exact ⟨h2, h3⟩)
      clear h1 h2 h3
      go_wp2_with (first
        | (go_at_call 10; (with_reducible refine (P1.out _ (hQ.out.up (by (repeat (first | (with_reducible exact Upd.refl _ _) | (with_reducible assumption) | (with_reducible apply Upd.drew) | (with_reducible apply Upd.alloc) | (refine Upd0.tr ?_ (by with_reducible assumption)) | (refine Upd.setCell ?_ (fun h => absurd h (by first | exact Nat.lt_irrefl _ | (simp only []; omega))) _))); done))).use ?_); rintro v w2 ⟨rfl, hu2, hq2⟩; rw [hst.out] at hq2; have k2 := Lib.hid hq2; clear hq2)
        | (with_reducible refine wp_serial (by kernel_rfl) (by kernel_rfl) (by (repeat (first | (with_reducible apply NoBad.then) | (with_reducible apply NoBad.inBlock) | (with_reducible apply NoBad.jump) | (with_reducible exact NoBad.rets))); done) ?_) | fail)
      have U2 : Upd0 w w2 := UpdT.fin (by (repeat (first | (with_reducible exact Upd.refl _ _) | (with_reducible assumption) | (with_reducible apply Upd.drew) | (with_reducible apply Upd.alloc) | (refine Upd0.tr ?_ (by with_reducible assumption)) | (refine Upd.setCell ?_ (fun h => absurd h (by first | exact Nat.lt_irrefl _ | (simp only []; omega))) _))); done) hbl hu2
      go_roundw
      case rel => exact ⟨k + 1, by omega, by go_num, U2, k2, hB2⟩
      case measure => simp [intOf]; omega
    · have hkx : k = xs.length := by omega
      rw [hkx, List.take_length] at hQ hB
      have hB3 := Lib.hid (setAll_bound xs hB.out)
      clear k1 hB hkx
      have hw1 : wrap64 (1000 + step) = 1000 + step := by simp only [wrap64]; omega
      go_wp2_with (first | (with_reducible refine wp_serial (by kernel_rfl) (by kernel_rfl) (by (repeat (first | (with_reducible apply NoBad.then) | (with_reducible apply NoBad.inBlock) | (with_reducible apply NoBad.jump) | (with_reducible exact NoBad.rets))); done) ?_) | fail)
      go_loopw [8, 9, 10, 11, 12] (fun nn _ _ _ _ wr => ∃ (now : Int) (L : List Tm), nn = .int .i64 now ∧ 0 ≤ now ∧ now ≤ 1000 + step + step ∧ Upd0 w wr ∧ Hid (Qu wr t bm 1000 L) ∧ Hid (∀ t ∈ L, t ∈ setAll xs ∧ now - step < t.a ∧ 0 ≤ t.a)) (fun nn _ _ _ _ _ => (1000 + step + step - intOf nn).toNat)
      case atStart => exact ⟨0, setAll xs, rfl, by omega, by omega, hu, hQ, Lib.hid fun t ht => ⟨ht, by have := (hB3.out t ht).1; omega, (hB3.out t ht).1⟩⟩
      case round =>
        clear hQ
        obtain ⟨now, L, rfl, hn0, hn1, hu3, hQ3, hL⟩ := hrel
        by_cases hle : now ≤ 1000 + step
        case neg =>
          have hnil : L = [] := by
            cases L with
            | nil => rfl
            | cons y L =>
              have h1 := hL.out y (List.mem_cons_self ..)
              have h2 := hB3.out y h1.1
              omega
          subst hnil
          go_wp2_with (first
            | (go_at_call 18; (with_reducible refine (qlen_w t bm 1000 [] _ hQ3.out).use ?_); rintro v w4 ⟨rfl, hu4⟩)
            | (go_at_call 9; (with_reducible refine (tlive_w _).use ?_); rintro v w7 ⟨rfl, hu7⟩)
            | (with_reducible refine wp_serial (by kernel_rfl) (by kernel_rfl) (by (repeat (first | (with_reducible apply NoBad.then) | (with_reducible apply NoBad.inBlock) | (with_reducible apply NoBad.jump) | (with_reducible exact NoBad.rets))); done) ?_) | fail)
          all_goals go_returns
          all_goals exact ⟨rfl, (by (repeat (first | (with_reducible exact Upd.refl _ _) | (with_reducible assumption) | (with_reducible apply Upd.drew) | (with_reducible apply Upd.alloc) | (refine Upd0.tr ?_ (by with_reducible assumption)) | (refine Upd.setCell ?_ (fun h => absurd h (by first | exact Nat.lt_irrefl _ | (simp only []; omega))) _))); done)⟩
        have hw2 : wrap64 (now + step) = now + step := by simp only [wrap64]; omega
        have hw3 : wrap64 (now - step) = now - step := by simp only [wrap64]; omega
        obtain ⟨N, hN⟩ : ∃ N, dueN L now = N := ⟨_, rfl⟩
        have hNl : N.length ≤ 1000 := by
          rw [← hN, dueN_eq hQ3.out.srt, List.length_map]
          have := List.length_filter_le (fun t => decide (t.a ≤ now)) L
          have := hQ3.out.len
          omega
        have hD := Lib.hid (show ∀ w', Qu w' t bm 1000 L → Calls Try.prog 14 #[.pointer (some ⟨t, 0, none⟩), .int .i64 now] w' (Rets fun r w'' => ∃ ao cap, r = .slice ao N.length cap ∧ SR w'' ao N ∧ Upd (fun b => b = bm) w' w'' ∧ Qu w'' t bm 1000 (dueL L now)) from fun w' h => by
          have := due_w t bm 1000 L now w' h
          rwa [hN] at this)
        have hok := Lib.hid (show ∀ x ∈ N, 0 ≤ lastA xs x ∧ lastA xs x ≤ now ∧ now - step < lastA xs x from fun x hx => told_ok hL.out hQ3.out.srt (by rw [hN]; exact hx))
        have hrest := Lib.hid (show ∀ t ∈ dueL L now, t ∈ setAll xs ∧ now + step - step < t.a ∧ 0 ≤ t.a from fun t ht => by
          obtain ⟨h1, h2⟩ := due_rest hQ3.out.srt t ht
          have := hL.out t h1
          exact ⟨this.1, by omega, this.2.2⟩)
        clear hN
        go_wp2_with (first
          | (go_at_call 14; (with_reducible refine (hD.out _ hQ3.out).use ?_); rintro v w4 ⟨ao4, cap4, rfl, hs4, hu4, hq4⟩; have k4 := Lib.hid hq4; have s4 := Lib.hid hs4; clear hq4 hs4)
          | (with_reducible refine wp_serial (by kernel_rfl) (by kernel_rfl) (by (repeat (first | (with_reducible apply NoBad.then) | (with_reducible apply NoBad.inBlock) | (with_reducible apply NoBad.jump) | (with_reducible exact NoBad.rets))); done) ?_) | fail)
        have U4 : Upd0 w w4 := UpdT.fin hu3 hbl hu4
        go_loopw [10, 11, 12] (fun ii _ _ wr => ∃ k : Nat, k ≤ N.length ∧ ii = .int .i64 k ∧ Upd0 w4 wr) (fun ii _ _ _ => N.length - (intOf ii).toNat)
        case atStart => exact ⟨0, Nat.zero_le _, rfl, Upd.refl _ _⟩
        case round =>
          obtain ⟨k5, hk5, rfl, hu5⟩ := hrel
          by_cases hlt5 : k5 < N.length
          · obtain ⟨g4, o4, rfl, hg4, hc4⟩ := (s4.out.up hu5).some hlt5
            obtain ⟨x, hx⟩ : ∃ x, N[k5]? = some x := ⟨N[k5], List.getElem?_eq_getElem hlt5⟩
            have hcx := hc4 k5 x hx
            obtain ⟨f1, f2, f3⟩ := hok.out x (List.mem_of_getElem? hx)
            clear hc4 hx
            go_wp2_with (first | (with_reducible refine wp_serial (by kernel_rfl) (by kernel_rfl) (by (repeat (first | (with_reducible apply NoBad.then) | (with_reducible apply NoBad.inBlock) | (with_reducible apply NoBad.jump) | (with_reducible exact NoBad.rets))); done) ?_) | fail)
            obtain ⟨wz, rfl⟩ : ∃ wz, wz = wr := ⟨_, rfl⟩
            go_loopw [11, 12] (fun cc ii wr => ∃ m : Nat, m ≤ xs.length ∧ ii = .int .i64 m ∧ cc = .int .i64 (lastA (xs.take m) x) ∧ Upd0 wz wr) (fun _ ii _ => xs.length - (intOf ii).toNat)
            case atStart => exact ⟨0, Nat.zero_le _, rfl, rfl, Upd.refl _ _⟩
            case round =>
              obtain ⟨m, hm, rfl, rfl, hu6⟩ := hrel
              have hcx6 := hu6.cell (fun h => h) hcx
              by_cases hltm : m < xs.length
              · obtain ⟨y, hy⟩ : ∃ y, xs[m]? = some y := ⟨xs[m], List.getElem?_eq_getElem hltm⟩
                obtain ⟨g, o, rfl, hg, e0, e1, e2, hnm⟩ := hSh.out.some hy
                have U6 : Upd0 w wr := (U4.tr hu5).tr hu6
                have d1 := U6.cell (fun h => h) e1
                have d2 := U6.cell (fun h => h) e2
                have hst := Lib.hid (show lastA (xs.take (m + 1)) x = if y.nm = x then y.at_ else lastA (xs.take m) x by rw [take_snoc hy, lastA_snoc])
                obtain ⟨lm, hlm⟩ : ∃ lm, lastA (xs.take m) x = lm := ⟨_, rfl⟩
                rw [hlm] at hst ⊢
                clear hy e0 e1 e2 hlm
                obtain ⟨dO, nm, at_⟩ := y
                simp only [] at d1 d2 hst
                by_cases hxy : nm = x
                · subst hxy
                  rw [if_pos rfl] at hst
                  go_wp2_with (first | (with_reducible refine wp_serial (by kernel_rfl) (by kernel_rfl) (by (repeat (first | (with_reducible apply NoBad.then) | (with_reducible apply NoBad.inBlock) | (with_reducible apply NoBad.jump) | (with_reducible exact NoBad.rets))); done) ?_) | fail)
                  go_roundw
                  case rel => exact ⟨m + 1, by omega, by go_num, by rw [hst.out], (by (repeat (first | (with_reducible exact Upd.refl _ _) | (with_reducible assumption) | (with_reducible apply Upd.drew) | (with_reducible apply Upd.alloc) | (refine Upd0.tr ?_ (by with_reducible assumption)) | (refine Upd.setCell ?_ (fun h => absurd h (by first | exact Nat.lt_irrefl _ | (simp only []; omega))) _))); done)⟩
                  case measure => simp [intOf]; omega
                · rw [if_neg hxy] at hst
                  have hb : (nm == x) = false := beq_eq_false_iff_ne.2 hxy
                  clear hxy
                  go_wp2_with (first | (with_reducible refine wp_serial (by kernel_rfl) (by kernel_rfl) (by (repeat (first | (with_reducible apply NoBad.then) | (with_reducible apply NoBad.inBlock) | (with_reducible apply NoBad.jump) | (with_reducible exact NoBad.rets))); done) ?_) | fail)
                  go_roundw
                  case rel => exact ⟨m + 1, by omega, by go_num, by rw [hst.out], (by (repeat (first | (with_reducible exact Upd.refl _ _) | (with_reducible assumption) | (with_reducible apply Upd.drew) | (with_reducible apply Upd.alloc) | (refine Upd0.tr ?_ (by with_reducible assumption)) | (refine Upd.setCell ?_ (fun h => absurd h (by first | exact Nat.lt_irrefl _ | (simp only []; omega))) _))); done)⟩
                  case measure => simp [intOf]; omega
              · have hmx : m = xs.length := by omega
                rw [hmx, List.take_length]
                obtain ⟨la, hla⟩ : ∃ la, lastA xs x = la := ⟨_, rfl⟩
                rw [hla] at f1 f2 f3 ⊢
                have p1 : ¬ la < 0 := by omega
                have p2 : ¬ now < la := by omega
                have p3 : ¬ la ≤ now - step := by omega
                clear hmx hla f1 f2 f3
                go_wp2_with (first | (with_reducible refine wp_serial (by kernel_rfl) (by kernel_rfl) (by (repeat (first | (with_reducible apply NoBad.then) | (with_reducible apply NoBad.inBlock) | (with_reducible apply NoBad.jump) | (with_reducible exact NoBad.rets))); done) ?_) | fail)
                go_roundw
                case rel => exact ⟨k5 + 1, by omega, by go_num, (by (repeat (first | (with_reducible exact Upd.refl _ _) | (with_reducible assumption) | (with_reducible apply Upd.drew) | (with_reducible apply Upd.alloc) | (refine Upd0.tr ?_ (by with_reducible assumption)) | (refine Upd.setCell ?_ (fun h => absurd h (by first | exact Nat.lt_irrefl _ | (simp only []; omega))) _))); done)⟩
                case measure => simp [intOf]; omega
          · have k6 := Lib.hid (k4.out.up hu5)
            go_wp2_with (first | (with_reducible refine wp_serial (by kernel_rfl) (by kernel_rfl) (by (repeat (first | (with_reducible apply NoBad.then) | (with_reducible apply NoBad.inBlock) | (with_reducible apply NoBad.jump) | (with_reducible exact NoBad.rets))); done) ?_) | fail)
            go_roundw
            case rel => exact ⟨now + step, dueL L now, rfl, by omega, by omega, U4.tr (by (repeat (first | (with_reducible exact Upd.refl _ _) | (with_reducible assumption) | (with_reducible apply Upd.drew) | (with_reducible apply Upd.alloc) | (refine Upd0.tr ?_ (by with_reducible assumption)) | (refine Upd.setCell ?_ (fun h => absurd h (by first | exact Nat.lt_irrefl _ | (simp only []; omega))) _))); done), k6, hrest⟩
            case measure => simp [intOf]; omega
end Go.Proofs.Ytkkncnffkmopbaa
