/-
  Is it what a type asks for?
  Whether a record may be.
  Is it what a type asks for: the document's.
  Whether a record may be: the document's.
-/
import Derived.Test.YtijmbpokglohbaaRdH
import Derived.Test.YtijmbpokglohbaaRdL
namespace Go.Proofs.Ytijmbpokglohbaa
open Go.RowKit
set_option linter.unusedSimpArgs false
set_option linter.unusedVariables false
def fitB (k : Int) (d : Bs) : Bool := if k = 1 then (d.length : Int) == 4 else if k = 28 then (d.length : Int) == 16 else if k = 16 then texts d else if k = 6 then psB d else !(phC k d == 2)
set_option maxRecDepth 100000 in
theorem fits_w (k : Int) (d : Bs) (hm : d.length ≤ 70000) (w : World) : Calls Try.prog 79 #[.int .i64 k, .string ⟨d.toArray⟩] w (Rets fun r w' => r = .bool (fitB k d) ∧ Upd0 w w') := by
  by_cases h1 : k = 1
  · subst h1
    go_enter Try.func79, Try.ntmps79
    go_wp2_with (first | (with_reducible refine wp_serial (by kernel_rfl) (by kernel_rfl) (by repeat with_reducible (first | apply NoBad.then | apply NoBad.inBlock | apply NoBad.jump | exact NoBad.rets)) ?_) | fail)
    all_goals go_returns
    all_goals exact ⟨by first | rfl | simp [fitB], (by repeat first | with_reducible (first | exact Upd.refl _ _ | assumption | apply Upd.drew | apply Upd.alloc) | refine Upd0.tr ?_ (by with_reducible assumption) | refine Upd.setCell ?_ (fun h => absurd h (by first | exact Nat.lt_irrefl _ | (simp only []; omega))) _)⟩
  by_cases h2 : k = 28
  · subst h2
    go_enter Try.func79, Try.ntmps79
    go_wp2_with (first | (with_reducible refine wp_serial (by kernel_rfl) (by kernel_rfl) (by repeat with_reducible (first | apply NoBad.then | apply NoBad.inBlock | apply NoBad.jump | exact NoBad.rets)) ?_) | fail)
    all_goals go_returns
    all_goals exact ⟨by first | rfl | simp [fitB], (by repeat first | with_reducible (first | exact Upd.refl _ _ | assumption | apply Upd.drew | apply Upd.alloc) | refine Upd0.tr ?_ (by with_reducible assumption) | refine Upd.setCell ?_ (fun h => absurd h (by first | exact Nat.lt_irrefl _ | (simp only []; omega))) _)⟩
  by_cases h3 : k = 16
  · subst h3
    go_enter Try.func79, Try.ntmps79
    go_wp2_with (first
      | (go_at_call 97; (with_reducible refine (texts_w d hm _).use ?_); rintro v w1 ⟨rfl, hu1⟩)
      | (with_reducible refine wp_serial (by kernel_rfl) (by kernel_rfl) (by repeat with_reducible (first | apply NoBad.then | apply NoBad.inBlock | apply NoBad.jump | exact NoBad.rets)) ?_)
      | fail)
    all_goals go_returns
    all_goals exact ⟨by first | rfl | simp [fitB], (by repeat first | with_reducible (first | exact Upd.refl _ _ | assumption | apply Upd.drew | apply Upd.alloc) | refine Upd0.tr ?_ (by with_reducible assumption) | refine Upd.setCell ?_ (fun h => absurd h (by first | exact Nat.lt_irrefl _ | (simp only []; omega))) _)⟩
  by_cases h4 : k = 6
  · subst h4
    have hf : fitB 6 d = psB d := rfl
    cases hb : psB d
    all_goals
      have hc := Lib.hid (show psC d = _ by rw [psC, hb])
      rw [hb] at hf
      have hfh := Lib.hid hf
      clear hf hb
      go_enter Try.func79, Try.ntmps79
      go_wp2_with (first
        | (go_at_call 98; (with_reducible refine (parseSoa_w d hm _).use ?_); rintro v w1 ⟨rfl, hu1⟩; rw [hc.out]; generalize psV d = pv; obtain ⟨m1, m2, n1, n2, n3, n4, n5⟩ := pv; simp only [So.val])
        | (with_reducible refine wp_serial (by kernel_rfl) (by kernel_rfl) (by repeat with_reducible (first | apply NoBad.then | apply NoBad.inBlock | apply NoBad.jump | exact NoBad.rets)) ?_)
        | fail)
      all_goals go_returns
      all_goals exact ⟨by rw [hfh.out]; rfl, (by repeat first | with_reducible (first | exact Upd.refl _ _ | assumption | apply Upd.drew | apply Upd.alloc) | refine Upd0.tr ?_ (by with_reducible assumption) | refine Upd.setCell ?_ (fun h => absurd h (by first | exact Nat.lt_irrefl _ | (simp only []; omega))) _)⟩
  have hf := Lib.hid (show fitB k d = !(phC k d == 2) by rw [fitB, if_neg h1, if_neg h2, if_neg h3, if_neg h4])
  go_enter Try.func79, Try.ntmps79
  go_wp2_with (first
    | (go_at_call 74; (with_reducible refine (parseHost_w k d hm _).use ?_); rintro v w1 ⟨rfl, hu1⟩)
    | (with_reducible refine wp_serial (by kernel_rfl) (by kernel_rfl) (by repeat with_reducible (first | apply NoBad.then | apply NoBad.inBlock | apply NoBad.jump | exact NoBad.rets)) ?_)
    | fail)
  all_goals go_returns
  all_goals exact ⟨by rw [hf.out]; rfl, (by repeat first | with_reducible (first | exact Upd.refl _ _ | assumption | apply Upd.drew | apply Upd.alloc) | refine Upd0.tr ?_ (by with_reducible assumption) | refine Upd.setCell ?_ (fun h => absurd h (by first | exact Nat.lt_irrefl _ | (simp only []; omega))) _)⟩
theorem phC_val (k : Int) (d : Bs) : (!(phC k d == 2)) = (decide (aheadZ k < 0) || (decide (aheadZ k ≤ (d.length : Int)) && hostOk (d.drop (aheadZ k).toNat))) := by
  unfold phC
  by_cases h1 : aheadZ k < 0
  · simp [h1]
  · rw [if_neg h1, decide_eq_false h1, Bool.false_or]
    by_cases h2 : (d.length : Int) < aheadZ k
    · rw [if_pos h2, decide_eq_false (by omega)]; rfl
    · rw [if_neg h2, decide_eq_true (by omega)]
      cases hostOk (d.drop (aheadZ k).toNat) <;> rfl
end Go.Proofs.Ytijmbpokglohbaa

namespace Go.Proofs.Ytijmbpokglohbaa
open Go.RowKit
set_option linter.unusedSimpArgs false
set_option linter.unusedVariables false
/-- may a type be? -/
def kindB (k : Int) : Bool := decide (1 ≤ k ∧ k ≤ 65535 ∧ k ≠ 41 ∧ k ≠ 251 ∧ k ≠ 252 ∧ k ≠ 255)
def ttlB (t : Int) : Bool := decide (0 ≤ t ∧ t ≤ 2147483647)
def dataB (k : Int) (d : Bs) : Bool := decide (d.length ≤ 4000) && fitB k d
def recC (s : Bs) (k t : Int) (d : Bs) : Int := if kindB k = true ∧ ttlB t = true ∧ dataB k d = true then checkC s else 1
theorem dataB_big {k : Int} {d : Bs} (h : 4000 < d.length) : dataB k d = false := by rw [dataB, decide_eq_false (by omega)]; rfl
theorem dataB_small {k : Int} {d : Bs} (h : d.length ≤ 4000) : dataB k d = fitB k d := by rw [dataB, decide_eq_true h]; rfl
theorem recC_no1 {s : Bs} {k t : Int} {d : Bs} (h : kindB k = false) : recC s k t d = 1 := by rw [recC, if_neg (by rw [h]; simp)]
theorem recC_no2 {s : Bs} {k t : Int} {d : Bs} (h : ttlB t = false) : recC s k t d = 1 := by rw [recC, if_neg (by rw [h]; simp)]
theorem recC_no3 {s : Bs} {k t : Int} {d : Bs} (h : dataB k d = false) : recC s k t d = 1 := by rw [recC, if_neg (by rw [h]; simp)]
theorem recC_yes {s : Bs} {k t : Int} {d : Bs} (h1 : kindB k = true) (h2 : ttlB t = true) (h3 : dataB k d = true) : recC s k t d = checkC s := by rw [recC, if_pos ⟨h1, h2, h3⟩]
theorem four {w : World} {b : Nat} {a0 a1 a2 a3 : Value} {t : TypeId} (h : w.heap[b]? = some (.cells #[a0, a1, a2, a3] t (0, 0))) : w.cell? ⟨b, 0, none⟩ = some a0 ∧ w.cell? ⟨b, 1, none⟩ = some a1 ∧ w.cell? ⟨b, 2, none⟩ = some a2 ∧ w.cell? ⟨b, 3, none⟩ = some a3 ∧ ∀ i, w.frozen? ⟨b, i, none⟩ = false :=
  ⟨by rw [blk_cell h]; rfl, by rw [blk_cell h]; rfl, by rw [blk_cell h]; rfl, by rw [blk_cell h]; rfl, fun i => blk_frz h i⟩
theorem checkC_or (s : Bs) : checkC s = 0 ∨ checkC s = 1 := by unfold checkC; cases cutB s <;> simp
theorem kind_no {k : Int} (h : kindB k = false) : k = 41 ∨ k = 251 ∨ k = 252 ∨ k = 255 ∨ (k < 1 ∧ ¬ k = 41 ∧ ¬ k = 251 ∧ ¬ k = 252 ∧ ¬ k = 255) ∨ (65535 < k ∧ ¬ k < 1 ∧ ¬ k = 41 ∧ ¬ k = 251 ∧ ¬ k = 252 ∧ ¬ k = 255) := by
  have := of_decide_eq_false h; omega
theorem kind_yes {k : Int} (h : kindB k = true) : 1 ≤ k ∧ k ≤ 65535 ∧ ¬ k = 41 ∧ ¬ k = 251 ∧ ¬ k = 252 ∧ ¬ k = 255 := of_decide_eq_true h
theorem ttl_no {t : Int} (h : ttlB t = false) : t < 0 ∨ (0 ≤ t ∧ 2147483647 < t) := by have := of_decide_eq_false h; omega
theorem ttl_yes {t : Int} (h : ttlB t = true) : 0 ≤ t ∧ t ≤ 2147483647 := of_decide_eq_true h
set_option maxRecDepth 100000 in
set_option maxHeartbeats 2000000 in
theorem recCheck_w (s : Bs) (k t : Int) (d : Bs) (hs : s.length ≤ 70000) (hm : d.length ≤ 70000) (w : World) : Calls Try.prog 53 #[.agg #[.string ⟨s.toArray⟩, .int .i64 k, .int .i64 t, .string ⟨d.toArray⟩]] w (Rets fun r w' => r = .int .i64 (recC s k t d) ∧ Upd0 w w') := by
  cases hk : kindB k with
  | false =>
    have hf := Lib.hid (recC_no1 (s := s) (t := t) (d := d) hk)
    rcases kind_no hk with rfl | rfl | rfl | rfl | ⟨k1, k2, k3, k4, k5⟩ | ⟨k1, k6, k2, k3, k4, k5⟩
    all_goals
      clear hk
      go_enter Try.func53, Try.ntmps53
      go_wp2_with (first
        | (with_reducible refine wp_serial (by kernel_rfl) (by kernel_rfl) (by repeat with_reducible (first | apply NoBad.then | apply NoBad.inBlock | apply NoBad.jump | exact NoBad.rets)) ?_)
        | fail)
      all_goals go_returns
      all_goals exact ⟨by rw [hf.out]; rfl, (by repeat first | with_reducible (first | exact Upd.refl _ _ | assumption | apply Upd.drew | apply Upd.alloc) | refine Upd0.tr ?_ (by with_reducible assumption) | refine Upd.setCell ?_ (fun h => absurd h (by first | exact Nat.lt_irrefl _ | (simp only []; omega))) _)⟩
  | true =>
    cases ht : ttlB t with
    | false =>
      have hf := Lib.hid (recC_no2 (s := s) (k := k) (d := d) ht)
      obtain ⟨k1, k2, k3, k4, k5, k6⟩ := kind_yes hk
      rcases ttl_no ht with t1 | ⟨t1, t2⟩
      all_goals
        clear hk ht
        go_enter Try.func53, Try.ntmps53
        go_wp2_with (first
          | (with_reducible refine wp_serial (by kernel_rfl) (by kernel_rfl) (by repeat with_reducible (first | apply NoBad.then | apply NoBad.inBlock | apply NoBad.jump | exact NoBad.rets)) ?_)
          | fail)
        all_goals go_returns
        all_goals exact ⟨by rw [hf.out]; rfl, (by repeat first | with_reducible (first | exact Upd.refl _ _ | assumption | apply Upd.drew | apply Upd.alloc) | refine Upd0.tr ?_ (by with_reducible assumption) | refine Upd.setCell ?_ (fun h => absurd h (by first | exact Nat.lt_irrefl _ | (simp only []; omega))) _)⟩
    | true =>
      by_cases hl : 4000 < d.length
      · have hf := Lib.hid (recC_no3 (s := s) (k := k) (t := t) (dataB_big (k := k) hl))
        obtain ⟨k1, k2, k3, k4, k5, k6⟩ := kind_yes hk
        obtain ⟨t1, t2⟩ := ttl_yes ht
        clear hk ht
        go_enter Try.func53, Try.ntmps53
        go_wp2_with (first
          | (with_reducible refine wp_serial (by kernel_rfl) (by kernel_rfl) (by repeat with_reducible (first | apply NoBad.then | apply NoBad.inBlock | apply NoBad.jump | exact NoBad.rets)) ?_)
          | fail)
        all_goals go_returns
        all_goals exact ⟨by rw [hf.out]; rfl, (by repeat first | with_reducible (first | exact Upd.refl _ _ | assumption | apply Upd.drew | apply Upd.alloc) | refine Upd0.tr ?_ (by with_reducible assumption) | refine Upd.setCell ?_ (fun h => absurd h (by first | exact Nat.lt_irrefl _ | (simp only []; omega))) _)⟩
      · have hd : dataB k d = fitB k d := dataB_small (by omega)
        obtain ⟨k1, k2, k3, k4, k5, k6⟩ := kind_yes hk
        obtain ⟨t1, t2⟩ := ttl_yes ht
        cases hfit : fitB k d with
        | false =>
          have hf := Lib.hid (recC_no3 (s := s) (k := k) (t := t) (hd.trans hfit))
          have hb := Lib.hid hfit
          clear hk ht hd hfit
          go_enter Try.func53, Try.ntmps53
          go_wp2_with (first
            | (go_at_call 79; (with_reducible refine (fits_w k d hm _).use ?_); rintro v w1 ⟨rfl, hu1⟩; rw [hb.out])
            | (with_reducible refine wp_serial (by kernel_rfl) (by kernel_rfl) (by repeat with_reducible (first | apply NoBad.then | apply NoBad.inBlock | apply NoBad.jump | exact NoBad.rets)) ?_)
            | fail)
          all_goals go_returns
          all_goals exact ⟨by rw [hf.out]; rfl, (by repeat first | with_reducible (first | exact Upd.refl _ _ | assumption | apply Upd.drew | apply Upd.alloc) | refine Upd0.tr ?_ (by with_reducible assumption) | refine Upd.setCell ?_ (fun h => absurd h (by first | exact Nat.lt_irrefl _ | (simp only []; omega))) _)⟩
        | true =>
          have hf := Lib.hid (recC_yes (s := s) hk ht (hd.trans hfit))
          have hb := Lib.hid hfit
          clear hk ht hd hfit
          go_enter Try.func53, Try.ntmps53
          go_wp2_with (first
            | (go_at_call 79; (with_reducible refine (fits_w k d hm _).use ?_); rintro v w1 ⟨rfl, hu1⟩; rw [hb.out]; obtain ⟨a0, a1, a2, a3, a4⟩ := four (hu1.block (fun h => h) (alloc_last _ _ w.heap.size rfl)))
            | (go_at_call 80; (with_reducible refine (check_any s (by unfold maxLen; omega) _).use ?_); rintro v w2 ⟨rfl, hu2⟩)
            | (with_reducible refine wp_serial (by kernel_rfl) (by kernel_rfl) (by repeat with_reducible (first | apply NoBad.then | apply NoBad.inBlock | apply NoBad.jump | exact NoBad.rets)) ?_)
            | fail)
          all_goals go_returns
          all_goals exact ⟨by rw [hf.out]; rfl, (by repeat first | with_reducible (first | exact Upd.refl _ _ | assumption | apply Upd.drew | apply Upd.alloc) | refine Upd0.tr ?_ (by with_reducible assumption) | refine Upd.setCell ?_ (fun h => absurd h (by first | exact Nat.lt_irrefl _ | (simp only []; omega))) _)⟩
end Go.Proofs.Ytijmbpokglohbaa

namespace Go.Proofs.Ytijmbpokglohbaa
open Go.RowKit
set_option linter.unusedSimpArgs false
set_option linter.unusedVariables false
set_option maxRecDepth 100000 in
theorem data_w (k : Int) (d : Bs) (hm : d.length ≤ 70000) (w : World) : Calls Try.prog 81 #[.int .i64 k, .string ⟨d.toArray⟩] w (Rets fun r w' => r = .bool (dataB k d) ∧ Upd0 w w') := by
  rcases Nat.lt_or_ge 4000 d.length with hbig | hsm
  · have hf := Lib.hid (dataB_big (k := k) hbig)
    go_enter Try.func81, Try.ntmps81
    go_wp2_with (first | (with_reducible refine wp_serial (by kernel_rfl) (by kernel_rfl) (by repeat with_reducible (first | apply NoBad.then | apply NoBad.inBlock | apply NoBad.jump | exact NoBad.rets)) ?_) | fail)
    all_goals go_returns
    all_goals exact ⟨by rw [hf.out]; rfl, (by repeat first | with_reducible (first | exact Upd.refl _ _ | assumption | apply Upd.drew | apply Upd.alloc) | refine Upd0.tr ?_ (by with_reducible assumption) | refine Upd.setCell ?_ (fun h => absurd h (by first | exact Nat.lt_irrefl _ | (simp only []; omega))) _)⟩
  rw [dataB_small hsm]
  by_cases h1 : k = 1
  · subst h1
    go_enter Try.func81, Try.ntmps81
    go_wp2_with (first | (with_reducible refine wp_serial (by kernel_rfl) (by kernel_rfl) (by repeat with_reducible (first | apply NoBad.then | apply NoBad.inBlock | apply NoBad.jump | exact NoBad.rets)) ?_) | fail)
    all_goals go_returns
    all_goals exact ⟨by first | rfl | simp [fitB], (by repeat first | with_reducible (first | exact Upd.refl _ _ | assumption | apply Upd.drew | apply Upd.alloc) | refine Upd0.tr ?_ (by with_reducible assumption) | refine Upd.setCell ?_ (fun h => absurd h (by first | exact Nat.lt_irrefl _ | (simp only []; omega))) _)⟩
  by_cases h2 : k = 28
  · subst h2
    go_enter Try.func81, Try.ntmps81
    go_wp2_with (first | (with_reducible refine wp_serial (by kernel_rfl) (by kernel_rfl) (by repeat with_reducible (first | apply NoBad.then | apply NoBad.inBlock | apply NoBad.jump | exact NoBad.rets)) ?_) | fail)
    all_goals go_returns
    all_goals exact ⟨by first | rfl | simp [fitB], (by repeat first | with_reducible (first | exact Upd.refl _ _ | assumption | apply Upd.drew | apply Upd.alloc) | refine Upd0.tr ?_ (by with_reducible assumption) | refine Upd.setCell ?_ (fun h => absurd h (by first | exact Nat.lt_irrefl _ | (simp only []; omega))) _)⟩
  by_cases h3 : k = 16
  · subst h3
    go_enter Try.func81, Try.ntmps81
    go_wp2_with (first
      | (go_at_call 100; (with_reducible refine (rtexts_w d hm _).use ?_); rintro v w1 ⟨rfl, hu1⟩)
      | (with_reducible refine wp_serial (by kernel_rfl) (by kernel_rfl) (by repeat with_reducible (first | apply NoBad.then | apply NoBad.inBlock | apply NoBad.jump | exact NoBad.rets)) ?_)
      | fail)
    all_goals go_returns
    all_goals exact ⟨by first | rfl | simp [fitB], (by repeat first | with_reducible (first | exact Upd.refl _ _ | assumption | apply Upd.drew | apply Upd.alloc) | refine Upd0.tr ?_ (by with_reducible assumption) | refine Upd.setCell ?_ (fun h => absurd h (by first | exact Nat.lt_irrefl _ | (simp only []; omega))) _)⟩
  by_cases h4 : k = 6
  · subst h4
    have hf : fitB 6 d = psB d := rfl
    cases hb : psB d
    all_goals
      have hc := Lib.hid (show psC d = _ by rw [psC, hb])
      rw [hb] at hf
      have hfh := Lib.hid hf
      clear hf hb
      go_enter Try.func81, Try.ntmps81
      go_wp2_with (first
        | (go_at_call 99; (with_reducible refine (rparseSoa_w d hm _).use ?_); rintro v w1 ⟨rfl, hu1⟩; rw [hc.out]; generalize psV d = pv; obtain ⟨m1, m2, n1, n2, n3, n4, n5⟩ := pv; simp only [So.val])
        | (with_reducible refine wp_serial (by kernel_rfl) (by kernel_rfl) (by repeat with_reducible (first | apply NoBad.then | apply NoBad.inBlock | apply NoBad.jump | exact NoBad.rets)) ?_)
        | fail)
      all_goals go_returns
      all_goals exact ⟨by rw [hfh.out]; rfl, (by repeat first | with_reducible (first | exact Upd.refl _ _ | assumption | apply Upd.drew | apply Upd.alloc) | refine Upd0.tr ?_ (by with_reducible assumption) | refine Upd.setCell ?_ (fun h => absurd h (by first | exact Nat.lt_irrefl _ | (simp only []; omega))) _)⟩
  have hf := Lib.hid (show fitB k d = (decide (aheadZ k < 0) || (decide (aheadZ k ≤ (d.length : Int)) && hostOk (d.drop (aheadZ k).toNat))) by rw [fitB, if_neg h1, if_neg h2, if_neg h3, if_neg h4, phC_val])
  have hz := aheadZ_or k
  rcases hz with hz | hz
  · have hh := Lib.hid hz
    clear hz
    go_enter Try.func81, Try.ntmps81
    go_wp2_with (first
      | (go_at_call 77; (with_reducible refine (rahead_w k _).use ?_); rintro v w1 ⟨rfl, hu1⟩; rw [hh.out])
      | (with_reducible refine wp_serial (by kernel_rfl) (by kernel_rfl) (by repeat with_reducible (first | apply NoBad.then | apply NoBad.inBlock | apply NoBad.jump | exact NoBad.rets)) ?_)
      | fail)
    all_goals go_returns
    all_goals exact ⟨by rw [hf.out, hh.out]; rfl, (by repeat first | with_reducible (first | exact Upd.refl _ _ | assumption | apply Upd.drew | apply Upd.alloc) | refine Upd0.tr ?_ (by with_reducible assumption) | refine Upd.setCell ?_ (fun h => absurd h (by first | exact Nat.lt_irrefl _ | (simp only []; omega))) _)⟩
  obtain ⟨n, hn, hn6⟩ : ∃ n : Nat, aheadZ k = n ∧ n ≤ 6 := by
    rcases hz with h | h | h
    · exact ⟨0, h, by omega⟩
    · exact ⟨2, h, by omega⟩
    · exact ⟨6, h, by omega⟩
  clear hz
  have hh := Lib.hid hn
  have hf2 := Lib.hid (show fitB k d = (decide (n ≤ d.length) && hostOk (d.drop n)) by
    rw [hf.out, hn, decide_eq_false (by omega), Bool.false_or]; congr 1; simp)
  clear hn
  go_enter Try.func81, Try.ntmps81
  go_wp2_with (first
    | (go_at_call 77; (with_reducible refine (rahead_w k _).use ?_); rintro v w1 ⟨rfl, hu1⟩; rw [hh.out])
    | (go_at_call 78; (with_reducible refine (isHost_w (d.drop n) (by simp; omega) _).use ?_); rintro v w2 ⟨rfl, hu2⟩)
    | (with_reducible refine wp_serial (by kernel_rfl) (by kernel_rfl) (by repeat with_reducible (first | apply NoBad.then | apply NoBad.inBlock | apply NoBad.jump | exact NoBad.rets)) ?_)
    | fail)
  all_goals go_returns
  all_goals exact ⟨by
    have q1 : ¬ ((n : Int) < 0) := by omega
    rw [hf2.out]
    rcases Nat.lt_or_ge d.length n with q | q
    · first | (exfalso; omega) | (have q2 := Nat.not_le.2 q; simp [q1, q2])
    · first | (exfalso; omega) | (simp [q1, q]), (by repeat first | with_reducible (first | exact Upd.refl _ _ | assumption | apply Upd.drew | apply Upd.alloc) | refine Upd0.tr ?_ (by with_reducible assumption) | refine Upd.setCell ?_ (fun h => absurd h (by first | exact Nat.lt_irrefl _ | (simp only []; omega))) _)⟩
end Go.Proofs.Ytijmbpokglohbaa

namespace Go.Proofs.Ytijmbpokglohbaa
open Go.RowKit
set_option linter.unusedSimpArgs false
set_option linter.unusedVariables false
theorem recC_no0 {s : Bs} {k t : Int} {d : Bs} (h : checkC s = 1) : recC s k t d = 1 := by rw [recC, h]; simp
set_option maxRecDepth 100000 in
set_option maxHeartbeats 2000000 in
theorem rrecCheck_w (s : Bs) (k t : Int) (d : Bs) (hs : s.length ≤ 70000) (hm : d.length ≤ 70000) (w : World) : Calls Try.prog 54 #[.agg #[.string ⟨s.toArray⟩, .int .i64 k, .int .i64 t, .string ⟨d.toArray⟩]] w (Rets fun r w' => r = .int .i64 (recC s k t d) ∧ Upd0 w w') := by
  rcases checkC_or s with hC | hC
  rotate_left
  · have hf := Lib.hid (recC_no0 (k := k) (t := t) (d := d) hC)
    have hc := Lib.hid hC
    clear hC
    go_enter Try.func54, Try.ntmps54
    go_wp2_with (first
      | (go_at_call 29; (with_reducible refine (rcheck_any s (by unfold maxLen; omega) _).use ?_); rintro v w1 ⟨rfl, hu1⟩; rw [hc.out]; obtain ⟨a0, a1, a2, a3, a4⟩ := four (hu1.block (fun h => h) (alloc_last _ _ w.heap.size rfl)))
      | (with_reducible refine wp_serial (by kernel_rfl) (by kernel_rfl) (by repeat with_reducible (first | apply NoBad.then | apply NoBad.inBlock | apply NoBad.jump | exact NoBad.rets)) ?_)
      | fail)
    all_goals go_returns
    all_goals first
      | exact ⟨by rw [hf.out]; rfl, (by repeat first | with_reducible (first | exact Upd.refl _ _ | assumption | apply Upd.drew | apply Upd.alloc) | refine Upd0.tr ?_ (by with_reducible assumption) | refine Upd.setCell ?_ (fun h => absurd h (by first | exact Nat.lt_irrefl _ | (simp only []; omega))) _)⟩
      | (exfalso; rename_i hx; simp only [beq_iff_eq] at hx; omega)
  have hc := Lib.hid hC
  clear hC
  cases hk : kindB k with
  | false =>
    have hf := Lib.hid (recC_no1 (s := s) (t := t) (d := d) hk)
    rcases kind_no hk with rfl | rfl | rfl | rfl | ⟨k1, k2, k3, k4, k5⟩ | ⟨k1, k6, k2, k3, k4, k5⟩
    all_goals
      clear hk
      go_enter Try.func54, Try.ntmps54
      go_wp2_with (first
        | (go_at_call 29; (with_reducible refine (rcheck_any s (by unfold maxLen; omega) _).use ?_); rintro v w1 ⟨rfl, hu1⟩; rw [hc.out]; obtain ⟨a0, a1, a2, a3, a4⟩ := four (hu1.block (fun h => h) (alloc_last _ _ w.heap.size rfl)))
        | (with_reducible refine wp_serial (by kernel_rfl) (by kernel_rfl) (by repeat with_reducible (first | apply NoBad.then | apply NoBad.inBlock | apply NoBad.jump | exact NoBad.rets)) ?_)
        | fail)
      all_goals go_returns
      all_goals first
        | exact ⟨by rw [hf.out]; rfl, (by repeat first | with_reducible (first | exact Upd.refl _ _ | assumption | apply Upd.drew | apply Upd.alloc) | refine Upd0.tr ?_ (by with_reducible assumption) | refine Upd.setCell ?_ (fun h => absurd h (by first | exact Nat.lt_irrefl _ | (simp only []; omega))) _)⟩
        | (exfalso; rename_i hx; simp only [beq_iff_eq] at hx; omega)
  | true =>
    cases ht : ttlB t with
    | false =>
      have hf := Lib.hid (recC_no2 (s := s) (k := k) (d := d) ht)
      obtain ⟨k1, k2, k3, k4, k5, k6⟩ := kind_yes hk
      rcases ttl_no ht with t1 | ⟨t1, t2⟩
      all_goals
        clear hk ht
        go_enter Try.func54, Try.ntmps54
        go_wp2_with (first
          | (go_at_call 29; (with_reducible refine (rcheck_any s (by unfold maxLen; omega) _).use ?_); rintro v w1 ⟨rfl, hu1⟩; rw [hc.out]; obtain ⟨a0, a1, a2, a3, a4⟩ := four (hu1.block (fun h => h) (alloc_last _ _ w.heap.size rfl)))
          | (with_reducible refine wp_serial (by kernel_rfl) (by kernel_rfl) (by repeat with_reducible (first | apply NoBad.then | apply NoBad.inBlock | apply NoBad.jump | exact NoBad.rets)) ?_)
          | fail)
        all_goals go_returns
        all_goals first
          | exact ⟨by rw [hf.out]; rfl, (by repeat first | with_reducible (first | exact Upd.refl _ _ | assumption | apply Upd.drew | apply Upd.alloc) | refine Upd0.tr ?_ (by with_reducible assumption) | refine Upd.setCell ?_ (fun h => absurd h (by first | exact Nat.lt_irrefl _ | (simp only []; omega))) _)⟩
          | (exfalso; rename_i hx; simp only [beq_iff_eq] at hx; omega)
    | true =>
      obtain ⟨k1, k2, k3, k4, k5, k6⟩ := kind_yes hk
      obtain ⟨t1, t2⟩ := ttl_yes ht
      cases hd : dataB k d with
      | false =>
        have hf := Lib.hid (recC_no3 (s := s) (k := k) (t := t) hd)
        have hb := Lib.hid hd
        clear hk ht hd
        go_enter Try.func54, Try.ntmps54
        go_wp2_with (first
          | (go_at_call 29; (with_reducible refine (rcheck_any s (by unfold maxLen; omega) _).use ?_); rintro v w1 ⟨rfl, hu1⟩; rw [hc.out]; obtain ⟨a0, a1, a2, a3, a4⟩ := four (hu1.block (fun h => h) (alloc_last _ _ w.heap.size rfl)))
          | (go_at_call 81; (with_reducible refine (data_w k d hm _).use ?_); rintro v w2 ⟨rfl, hu2⟩; rw [hb.out])
          | (with_reducible refine wp_serial (by kernel_rfl) (by kernel_rfl) (by repeat with_reducible (first | apply NoBad.then | apply NoBad.inBlock | apply NoBad.jump | exact NoBad.rets)) ?_)
          | fail)
        all_goals go_returns
        all_goals first
          | exact ⟨by rw [hf.out]; rfl, (by repeat first | with_reducible (first | exact Upd.refl _ _ | assumption | apply Upd.drew | apply Upd.alloc) | refine Upd0.tr ?_ (by with_reducible assumption) | refine Upd.setCell ?_ (fun h => absurd h (by first | exact Nat.lt_irrefl _ | (simp only []; omega))) _)⟩
          | (exfalso; rename_i hx; simp only [beq_iff_eq] at hx; omega)
      | true =>
        have hf := Lib.hid ((recC_yes (s := s) hk ht hd).trans hc.out)
        have hb := Lib.hid hd
        clear hk ht hd
        go_enter Try.func54, Try.ntmps54
        go_wp2_with (first
          | (go_at_call 29; (with_reducible refine (rcheck_any s (by unfold maxLen; omega) _).use ?_); rintro v w1 ⟨rfl, hu1⟩; rw [hc.out]; obtain ⟨a0, a1, a2, a3, a4⟩ := four (hu1.block (fun h => h) (alloc_last _ _ w.heap.size rfl)))
          | (go_at_call 81; (with_reducible refine (data_w k d hm _).use ?_); rintro v w2 ⟨rfl, hu2⟩; rw [hb.out])
          | (with_reducible refine wp_serial (by kernel_rfl) (by kernel_rfl) (by repeat with_reducible (first | apply NoBad.then | apply NoBad.inBlock | apply NoBad.jump | exact NoBad.rets)) ?_)
          | fail)
        all_goals go_returns
        all_goals first
          | exact ⟨by rw [hf.out]; rfl, (by repeat first | with_reducible (first | exact Upd.refl _ _ | assumption | apply Upd.drew | apply Upd.alloc) | refine Upd0.tr ?_ (by with_reducible assumption) | refine Upd.setCell ?_ (fun h => absurd h (by first | exact Nat.lt_irrefl _ | (simp only []; omega))) _)⟩
          | (exfalso; rename_i hx; simp only [beq_iff_eq] at hx; omega)
end Go.Proofs.Ytijmbpokglohbaa
