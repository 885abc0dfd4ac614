/-
  What may be believed of a reply: whether a message is the reply to a query.
-/
import Derived.Test.YtijmbpokglohbaaKi
namespace Go.Proofs.Ytijmbpokglohbaa
open Go.RowKit
set_option linter.unusedSimpArgs false
set_option linter.unusedVariables false
def qsB (a b : Qn) : Bool := decide (a.ty = b.ty) && sameB a.nm b.nm
set_option maxRecDepth 100000 in
theorem msame_w (a b : Qn) (ha : a.nm.length ≤ 5000) (hb : b.nm.length ≤ 5000) (w : World) :
    Calls Try.prog 44 #[a.val, b.val] w (Rets fun r w' => r = .bool (qsB a b) ∧ Upd0 w w') := by
  obtain ⟨an, at'⟩ := a
  obtain ⟨bn, bt⟩ := b
  simp only [qsB, Qn.val] at ha hb ⊢
  have hS := Lib.hid (same_w an bn (by omega) (by omega))
  obtain ⟨s, hs⟩ : ∃ s, sameB an bn = s := ⟨_, rfl⟩
  rw [hs] at hS ⊢
  clear hs
  by_cases h1 : at' = bt
  · subst h1
    rw [decide_eq_true rfl, Bool.true_and]
    go_enter Try.func44, Try.ntmps44
    go_wp2_with (first
      | (go_at_call 45; (with_reducible refine (hS.out _).use ?_); rintro v w1 ⟨rfl, hu1⟩)
      | (with_reducible refine wp_serial (by kernel_rfl) (by kernel_rfl) (by repeat with_reducible (first | apply NoBad.then | apply NoBad.inBlock | apply NoBad.jump | exact NoBad.rets)) ?_) | fail)
    all_goals go_returns
    all_goals exact ⟨by first | rfl | simp, (by repeat first | with_reducible (first | exact Upd.refl _ _ | assumption | apply Upd.drew | apply Upd.alloc) | refine Upd0.tr ?_ (by with_reducible assumption) | refine Upd.setCell ?_ (fun h => absurd h (by first | exact Nat.lt_irrefl _ | (simp only []; omega))) _)⟩
  · rw [decide_eq_false h1, Bool.false_and]
    have h2 : (at' == bt) = false := beq_eq_false_iff_ne.2 h1
    clear h1
    go_enter Try.func44, Try.ntmps44
    go_wp2_with (first
      | (go_at_call 45; (with_reducible refine (hS.out _).use ?_); rintro v w1 ⟨rfl, hu1⟩)
      | (with_reducible refine wp_serial (by kernel_rfl) (by kernel_rfl) (by repeat with_reducible (first | apply NoBad.then | apply NoBad.inBlock | apply NoBad.jump | exact NoBad.rets)) ?_) | fail)
    all_goals go_returns
    all_goals exact ⟨by first | rfl | simp [h2], (by repeat first | with_reducible (first | exact Upd.refl _ _ | assumption | apply Upd.drew | apply Upd.alloc) | refine Upd0.tr ?_ (by with_reducible assumption) | refine Upd.setCell ?_ (fun h => absurd h (by first | exact Nat.lt_irrefl _ | (simp only []; omega))) _)⟩
set_option maxRecDepth 100000 in
theorem eqf_no (a b : Option Addr) (la lb ca cb : Nat) (f : Value) (h : ¬ la = lb) (w : World) :
    Calls Try.prog 43 #[.slice a la ca, .slice b lb cb, f] w (Rets fun r w' => r = .bool false ∧ Upd0 w w') := by
  have h2 : ((la : Int) != (lb : Int)) = true := bne_iff_ne.2 (by omega)
  clear h
  go_enter Try.func43, Try.ntmps43
  go_wp2_with (first | (with_reducible refine wp_serial (by kernel_rfl) (by kernel_rfl) (by repeat with_reducible (first | apply NoBad.then | apply NoBad.inBlock | apply NoBad.jump | exact NoBad.rets)) ?_) | fail)
  all_goals go_returns
  all_goals exact ⟨rfl, (by repeat first | with_reducible (first | exact Upd.refl _ _ | assumption | apply Upd.drew | apply Upd.alloc) | refine Upd0.tr ?_ (by with_reducible assumption) | refine Upd.setCell ?_ (fun h => absurd h (by first | exact Nat.lt_irrefl _ | (simp only []; omega))) _)⟩
def EqSt (p : Bool) (i : Value) : Prop := i = .int .i64 0 ∨ (i = .int .i64 1 ∧ p = true)
set_option maxRecDepth 100000 in
theorem eqf_one (ao bo : Option Addr) (ca cb : Nat) (a b : Qn) (w : World) (hA : QsR w ao [a]) (hB : QsR w bo [b]) (ha : a.nm.length ≤ 5000) (hb : b.nm.length ≤ 5000) :
    Calls Try.prog 43 #[.slice ao 1 ca, .slice bo 1 cb, .func (.func 44) #[] #[]] w (Rets fun r w' => r = .bool (qsB a b) ∧ Upd0 w w') := by
  have hM := Lib.hid (msame_w a b ha hb)
  obtain ⟨g, o, rfl, hg, e0, e1⟩ := hA.some (i := 0) rfl
  obtain ⟨g2, o2, rfl, hg2, k0, k1⟩ := hB.some (i := 0) rfl
  simp only [Nat.zero_mul, Nat.add_zero] at e0 e1 k0 k1
  obtain ⟨p, hp⟩ : ∃ p, qsB a b = p := ⟨_, rfl⟩
  rw [hp] at hM ⊢
  clear hp hA hB
  obtain ⟨an, at'⟩ := a
  obtain ⟨bn, bt⟩ := b
  simp only [Qn.val] at hM
  dsimp only at e0 e1 k0 k1
  have e0h := Lib.hid e0
  have e1h := Lib.hid e1
  have k0h := Lib.hid k0
  have k1h := Lib.hid k1
  clear e0 e1 k0 k1
  go_enter Try.func43, Try.ntmps43
  go_wp2_with (first | (with_reducible refine wp_serial (by kernel_rfl) (by kernel_rfl) (by repeat with_reducible (first | apply NoBad.then | apply NoBad.inBlock | apply NoBad.jump | exact NoBad.rets)) ?_) | fail)
  go_loopw [7, 8, 9, 17] (fun _ _ _ ii wr => ∃ i : Value, Hid (EqSt p i) ∧ Upd0 w wr ∧ ii = i) (fun _ _ _ ii _ => 1 - (intOf ii).toNat)
  case atStart => exact ⟨_, Lib.hid (.inl rfl), Upd.refl _ _, rfl⟩
  case round =>
    obtain ⟨i, hi, hu, rfl⟩ := hrel
    have hi' := hi.out
    clear hi
    have e0 := hu.cell (fun h => h) e0h.out
    have e1 := hu.cell (fun h => h) e1h.out
    have k0 := hu.cell (fun h => h) k0h.out
    have k1 := hu.cell (fun h => h) k1h.out
    have hgw : g < wr.heap.size := Nat.lt_of_lt_of_le hg hu.size
    have hgw2 : g2 < wr.heap.size := Nat.lt_of_lt_of_le hg2 hu.size
    have hn1 : ¬ g = wr.heap.size := by omega
    have hn2 : ¬ g2 = wr.heap.size := by omega
    rcases hi' with hi | ⟨hi, hp⟩
    · subst hi
      cases p with
      | true =>
        go_wp2_with (first
          | (go_at_call 44; (with_reducible refine (hM.out _).use ?_); rintro v w1 ⟨rfl, hu1⟩)
          | (with_reducible refine wp_serial (by kernel_rfl) (by kernel_rfl) (by repeat with_reducible (first | apply NoBad.then | apply NoBad.inBlock | apply NoBad.jump | exact NoBad.rets)) ?_) | fail)
        go_roundw
        case rel => exact ⟨_, Lib.hid (.inr ⟨rfl, rfl⟩), (by repeat first | with_reducible (first | exact Upd.refl _ _ | assumption | apply Upd.drew | apply Upd.alloc) | refine Upd0.tr ?_ (by with_reducible assumption) | refine Upd.setCell ?_ (fun h => absurd h (by first | exact Nat.lt_irrefl _ | (simp only []; omega))) _), rfl⟩
        case measure => simp [intOf]
      | false =>
        go_wp2_with (first
          | (go_at_call 44; (with_reducible refine (hM.out _).use ?_); rintro v w1 ⟨rfl, hu1⟩)
          | (with_reducible refine wp_serial (by kernel_rfl) (by kernel_rfl) (by repeat with_reducible (first | apply NoBad.then | apply NoBad.inBlock | apply NoBad.jump | exact NoBad.rets)) ?_) | fail)
        all_goals go_returns
        all_goals exact ⟨rfl, (by repeat first | with_reducible (first | exact Upd.refl _ _ | assumption | apply Upd.drew | apply Upd.alloc) | refine Upd0.tr ?_ (by with_reducible assumption) | refine Upd.setCell ?_ (fun h => absurd h (by first | exact Nat.lt_irrefl _ | (simp only []; omega))) _)⟩
    · subst hi hp
      go_wp2_with (first | (with_reducible refine wp_serial (by kernel_rfl) (by kernel_rfl) (by repeat with_reducible (first | apply NoBad.then | apply NoBad.inBlock | apply NoBad.jump | exact NoBad.rets)) ?_) | fail)
      all_goals go_returns
      all_goals exact ⟨rfl, (by repeat first | with_reducible (first | exact Upd.refl _ _ | assumption | apply Upd.drew | apply Upd.alloc) | refine Upd0.tr ?_ (by with_reducible assumption) | refine Upd.setCell ?_ (fun h => absurd h (by first | exact Nat.lt_irrefl _ | (simp only []; omega))) _)⟩
theorem cell13f {w : World} {b : Nat} {a0 a1 a2 a3 a4 a5 a6 a7 a8 a9 aA aB aC : Value} {t : TypeId} (h : w.heap[b]? = some (.cells #[a0, a1, a2, a3, a4, a5, a6, a7, a8, a9, aA, aB, aC] t (0, 0))) :
    w.cell? ⟨b, 0, none⟩ = some a0 ∧ w.cell? ⟨b, 1, none⟩ = some a1 ∧ w.cell? ⟨b, 2, none⟩ = some a2 ∧ w.cell? ⟨b, 8, none⟩ = some a8 :=
  ⟨by rw [blk_cell h]; rfl, by rw [blk_cell h]; rfl, by rw [blk_cell h]; rfl, by rw [blk_cell h]; rfl⟩
theorem mat_ways (q m : Msg) : (m.re = false ∧ matB q m = false) ∨ (m.re = true ∧ q.re = true ∧ matB q m = false) ∨ (m.re = true ∧ q.re = false ∧ (q.id != m.id) = true ∧ matB q m = false) ∨ (m.re = true ∧ q.re = false ∧ (q.id != m.id) = false ∧ (q.op != 0) = true ∧ matB q m = false) ∨ (m.re = true ∧ q.re = false ∧ (q.id != m.id) = false ∧ (q.op != 0) = false ∧ (m.op != 0) = true ∧ matB q m = false) ∨
    (m.re = true ∧ q.re = false ∧ (q.id != m.id) = false ∧ (q.op != 0) = false ∧ (m.op != 0) = false ∧ ((¬ q.qs.length = 1 ∧ matB q m = false) ∨ (q.qs.length = 1 ∧ ¬ m.qs.length = 1 ∧ matB q m = false) ∨ ∃ a b, q.qs = [a] ∧ m.qs = [b] ∧ matB q m = qsB a b)) := by
  unfold matB
  cases h1 : m.re with
  | false => exact .inl ⟨rfl, rfl⟩
  | true =>
    cases h2 : q.re with
    | true => exact .inr (.inl ⟨rfl, rfl, rfl⟩)
    | false =>
      right; right
      by_cases h3 : q.id = m.id
      · have e3 : (q.id != m.id) = false := by simp [h3]
        right
        by_cases h4 : q.op = 0
        · have e4 : (q.op != 0) = false := by simp [h4]
          right
          by_cases h5 : m.op = 0
          · have e5 : (m.op != 0) = false := by simp [h5]
            right
            refine ⟨rfl, rfl, e3, e4, e5, ?_⟩
            rw [decide_eq_true h3, decide_eq_true h4, decide_eq_true h5]
            match hq : q.qs, hm : m.qs with
            | [], _ => exact .inl ⟨by simp, by simp⟩
            | _ :: _ :: _, _ => exact .inl ⟨by simp, by simp⟩
            | [a], [] => exact .inr (.inl ⟨rfl, by simp, by simp⟩)
            | [a], _ :: _ :: _ => exact .inr (.inl ⟨rfl, by simp, by simp⟩)
            | [a], [b] => exact .inr (.inr ⟨a, b, rfl, rfl, by simp [qsB]⟩)
          · exact .inl ⟨rfl, rfl, e3, e4, bne_iff_ne.2 h5, by simp [h5]⟩
        · exact .inl ⟨rfl, rfl, e3, bne_iff_ne.2 h4, by simp [h4]⟩
      · exact .inl ⟨rfl, rfl, bne_iff_ne.2 h3, by simp [h3]⟩
set_option maxRecDepth 100000 in
set_option maxHeartbeats 4000000 in
theorem matches_w (q m : Msg) (q1 a1 n1 x1 q2 a2 n2 x2 : Option Addr) (cq1 ca1 cn1 cx1 cq2 ca2 cn2 cx2 : Nat) (w : World) (hq : QsR w q1 q.qs) (hm : QsR w q2 m.qs) (hl1 : midQ q.qs) (hl2 : midQ m.qs) :
    Calls Try.prog 17 #[q.val q1 a1 n1 x1 cq1 ca1 cn1 cx1, m.val q2 a2 n2 x2 cq2 ca2 cn2 cx2] w (Rets fun r w' => r = .bool (matB q m) ∧ Upd0 w w') := by
  have hways := mat_ways q m
  have hlq := hl1.1
  have hlm := hl2.1
  obtain ⟨r, hr⟩ : ∃ r, matB q m = r := ⟨_, rfl⟩
  simp only [hr] at hways
  rw [hr]
  clear hr
  obtain ⟨id, re, op, au, tr, wa, av, rc, qs, an, ns, ex, sz⟩ := q
  obtain ⟨id2, re2, op2, au2, tr2, wa2, av2, rc2, qs2, an2, ns2, ex2, sz2⟩ := m
  simp only [Msg.val] at hways hq hm hl1 hl2 hlq hlm ⊢
  rcases hways with ⟨rfl, rfl⟩ | ⟨rfl, rfl, rfl⟩ | ⟨rfl, rfl, h3, rfl⟩ | ⟨rfl, rfl, h3, h4, rfl⟩ | ⟨rfl, rfl, h3, h4, h5, rfl⟩ | ⟨rfl, rfl, h3, h4, h5, ⟨h6, rfl⟩ | ⟨h6, h7, rfl⟩ | ⟨a, b, rfl, rfl, rfl⟩⟩
  case inr.inr.inr.inr.inr.inl =>
    have h6' : ((qs.length : Int) == 1) = false := beq_eq_false_iff_ne.2 (by omega)
    clear h6
    go_enter Try.func17, Try.ntmps17
    go_wp2_with (first | (with_reducible refine wp_serial (by kernel_rfl) (by kernel_rfl) (by repeat with_reducible (first | apply NoBad.then | apply NoBad.inBlock | apply NoBad.jump | exact NoBad.rets)) ?_) | fail)
    all_goals go_returns
    all_goals exact ⟨by first | rfl | simp [h6'], (by repeat first | with_reducible (first | exact Upd.refl _ _ | assumption | apply Upd.drew | apply Upd.alloc) | refine Upd0.tr ?_ (by with_reducible assumption) | refine Upd.setCell ?_ (fun h => absurd h (by first | exact Nat.lt_irrefl _ | (simp only []; omega))) _)⟩
  case inr.inr.inr.inr.inr.inr.inl =>
    have hE := Lib.hid (fun w => eqf_no q1 q2 1 qs2.length cq1 cq2 (.func (.func 44) #[] #[]) (fun h => h7 h.symm) w)
    match qs, h6 with
    | [a], _ =>
      simp only [List.length_cons, List.length_nil, Nat.zero_add] at hlq ⊢
      clear h7
      go_enter Try.func17, Try.ntmps17
      go_wp2_with (first
        | (go_at_call 43; (with_reducible refine (hE.out _).use ?_); rintro v w1 ⟨rfl, hu1⟩)
        | (with_reducible refine wp_serial (by kernel_rfl) (by kernel_rfl) (by repeat with_reducible (first | apply NoBad.then | apply NoBad.inBlock | apply NoBad.jump | exact NoBad.rets)) ?_) | fail)
      all_goals go_returns
      all_goals exact ⟨by first | rfl | simp, (by repeat first | with_reducible (first | exact Upd.refl _ _ | assumption | apply Upd.drew | apply Upd.alloc) | refine Upd0.tr ?_ (by with_reducible assumption) | refine Upd.setCell ?_ (fun h => absurd h (by first | exact Nat.lt_irrefl _ | (simp only []; omega))) _)⟩
  case inr.inr.inr.inr.inr.inr.inr =>
    have hE := Lib.hid (fun (w' : World) (k : Upd0 w w') => eqf_one q1 q2 cq1 cq2 a b w' (hq.up k) (hm.up k) (hl1.2 a (by simp)) (hl2.2 b (by simp)))
    obtain ⟨p, hp⟩ : ∃ p, qsB a b = p := ⟨_, rfl⟩
    rw [hp] at hE ⊢
    simp only [List.length_cons, List.length_nil, Nat.zero_add] at hlq hlm ⊢
    clear hp hq hm hl1 hl2
    go_enter Try.func17, Try.ntmps17
    go_wp2_with (first
      | (go_at_call 43; (with_reducible refine (hE.out _ (by repeat first | with_reducible (first | exact Upd.refl _ _ | assumption | apply Upd.drew | apply Upd.alloc) | refine Upd0.tr ?_ (by with_reducible assumption) | refine Upd.setCell ?_ (fun h => absurd h (by first | exact Nat.lt_irrefl _ | (simp only []; omega))) _)).use ?_); rintro v w1 ⟨rfl, hu1⟩)
      | (with_reducible refine wp_serial (by kernel_rfl) (by kernel_rfl) (by repeat with_reducible (first | apply NoBad.then | apply NoBad.inBlock | apply NoBad.jump | exact NoBad.rets)) ?_) | fail)
    all_goals go_returns
    all_goals exact ⟨by first | rfl | simp, (by repeat first | with_reducible (first | exact Upd.refl _ _ | assumption | apply Upd.drew | apply Upd.alloc) | refine Upd0.tr ?_ (by with_reducible assumption) | refine Upd.setCell ?_ (fun h => absurd h (by first | exact Nat.lt_irrefl _ | (simp only []; omega))) _)⟩
  all_goals
    clear hq hm hl1 hl2
    go_enter Try.func17, Try.ntmps17
    go_wp2_with (first | (with_reducible refine wp_serial (by kernel_rfl) (by kernel_rfl) (by repeat with_reducible (first | apply NoBad.then | apply NoBad.inBlock | apply NoBad.jump | exact NoBad.rets)) ?_) | fail)
    all_goals go_returns
    all_goals exact ⟨by first | rfl | simp, (by repeat first | with_reducible (first | exact Upd.refl _ _ | assumption | apply Upd.drew | apply Upd.alloc) | refine Upd0.tr ?_ (by with_reducible assumption) | refine Upd.setCell ?_ (fun h => absurd h (by first | exact Nat.lt_irrefl _ | (simp only []; omega))) _)⟩
set_option maxRecDepth 100000 in
set_option maxHeartbeats 4000000 in
theorem rmatches_w (q m : Msg) (q1 a1 n1 x1 q2 a2 n2 x2 : Option Addr) (cq1 ca1 cn1 cx1 cq2 ca2 cn2 cx2 : Nat) (w : World) (hq : QsR w q1 q.qs) (hm : QsR w q2 m.qs) (hl1 : midQ q.qs) (hl2 : midQ m.qs) :
    Calls Try.prog 18 #[q.val q1 a1 n1 x1 cq1 ca1 cn1 cx1, m.val q2 a2 n2 x2 cq2 ca2 cn2 cx2] w (Rets fun r w' => r = .bool (matB q m) ∧ Upd0 w w') := by
  have hways := mat_ways q m
  have hlq := hl1.1
  have hlm := hl2.1
  obtain ⟨r, hr⟩ : ∃ r, matB q m = r := ⟨_, rfl⟩
  simp only [hr] at hways
  rw [hr]
  clear hr
  obtain ⟨id, re, op, au, tr, wa, av, rc, qs, an, ns, ex, sz⟩ := q
  obtain ⟨id2, re2, op2, au2, tr2, wa2, av2, rc2, qs2, an2, ns2, ex2, sz2⟩ := m
  simp only [Msg.val] at hways hq hm hl1 hl2 hlq hlm ⊢
  rcases hways with ⟨rfl, rfl⟩ | ⟨rfl, rfl, rfl⟩ | ⟨rfl, rfl, h3, rfl⟩ | ⟨rfl, rfl, h3, h4, rfl⟩ | ⟨rfl, rfl, h3, h4, h5, rfl⟩ | ⟨rfl, rfl, h3, h4, h5, ⟨h6, rfl⟩ | ⟨h6, h7, rfl⟩ | ⟨a, b, rfl, rfl, rfl⟩⟩
  case inr.inr.inr.inr.inr.inl =>
    have h6' : ((qs.length : Int) != 1) = true := bne_iff_ne.2 (by omega)
    clear h6
    go_enter Try.func18, Try.ntmps18
    go_wp2_with (first | (with_reducible refine wp_serial (by kernel_rfl) (by kernel_rfl) (by repeat with_reducible (first | apply NoBad.then | apply NoBad.inBlock | apply NoBad.jump | exact NoBad.rets)) ?_) | fail)
    all_goals go_returns
    all_goals exact ⟨by first | rfl | simp [h6'], (by repeat first | with_reducible (first | exact Upd.refl _ _ | assumption | apply Upd.drew | apply Upd.alloc) | refine Upd0.tr ?_ (by with_reducible assumption) | refine Upd.setCell ?_ (fun h => absurd h (by first | exact Nat.lt_irrefl _ | (simp only []; omega))) _)⟩
  case inr.inr.inr.inr.inr.inr.inl =>
    have h7' : ((qs2.length : Int) != 1) = true := bne_iff_ne.2 (by omega)
    match qs, h6 with
    | [a], _ =>
      simp only [List.length_cons, List.length_nil, Nat.zero_add] at hlq ⊢
      clear h7
      go_enter Try.func18, Try.ntmps18
      go_wp2_with (first | (with_reducible refine wp_serial (by kernel_rfl) (by kernel_rfl) (by repeat with_reducible (first | apply NoBad.then | apply NoBad.inBlock | apply NoBad.jump | exact NoBad.rets)) ?_) | fail)
      all_goals go_returns
      all_goals exact ⟨by first | rfl | simp, (by repeat first | with_reducible (first | exact Upd.refl _ _ | assumption | apply Upd.drew | apply Upd.alloc) | refine Upd0.tr ?_ (by with_reducible assumption) | refine Upd.setCell ?_ (fun h => absurd h (by first | exact Nat.lt_irrefl _ | (simp only []; omega))) _)⟩
  case inr.inr.inr.inr.inr.inr.inr =>
    have hS := Lib.hid (rsame_w a.nm b.nm (by have := hl1.2 a (by simp); omega) (by have := hl2.2 b (by simp); omega))
    obtain ⟨g, o, rfl, hg, e0, e1⟩ := hq.some (i := 0) rfl
    obtain ⟨g2, o2, rfl, hg2, k0, k1⟩ := hm.some (i := 0) rfl
    simp only [Nat.zero_mul, Nat.add_zero] at e0 e1 k0 k1
    have hn1 : ¬ g = w.heap.size := by omega
    have hn2 : ¬ g2 = w.heap.size := by omega
    have hn3 : ¬ g2 = w.heap.size + 1 := by omega
    have hn4 : ¬ g2 = w.heap.size + 1 + 1 := by omega
    have hn5 : ¬ g2 = w.heap.size + 2 := by omega
    have hn6 : ¬ g = w.heap.size + 1 := by omega
    have hg3 : g2 < w.heap.size + 1 := by omega
    have hg4 : g2 < w.heap.size + 1 + 1 := by omega
    simp only [qsB]
    obtain ⟨an1, at1⟩ := a
    obtain ⟨bn1, bt1⟩ := b
    dsimp only at hS e0 e1 k0 k1 ⊢
    obtain ⟨s, hs⟩ : ∃ s, sameB an1 bn1 = s := ⟨_, rfl⟩
    rw [hs] at hS ⊢
    simp only [List.length_cons, List.length_nil, Nat.zero_add] at hlq hlm ⊢
    clear hs hq hm hl1 hl2
    by_cases h1 : at1 = bt1
    · subst h1
      rw [decide_eq_true rfl, Bool.true_and]
      go_enter Try.func18, Try.ntmps18
      go_wp2_with (first
        | (go_at_call 46; (with_reducible refine (hS.out _).use ?_); rintro v w1 ⟨rfl, hu1⟩)
        | (with_reducible refine wp_serial (by kernel_rfl) (by kernel_rfl) (by repeat with_reducible (first | apply NoBad.then | apply NoBad.inBlock | apply NoBad.jump | exact NoBad.rets)) ?_) | fail)
      all_goals go_returns
      all_goals exact ⟨by first | rfl | simp, (by repeat first | with_reducible (first | exact Upd.refl _ _ | assumption | apply Upd.drew | apply Upd.alloc) | refine Upd0.tr ?_ (by with_reducible assumption) | refine Upd.setCell ?_ (fun h => absurd h (by first | exact Nat.lt_irrefl _ | (simp only []; omega))) _)⟩
    · rw [decide_eq_false h1, Bool.false_and]
      have h2 : (at1 == bt1) = false := beq_eq_false_iff_ne.2 h1
      clear h1
      go_enter Try.func18, Try.ntmps18
      go_wp2_with (first
        | (go_at_call 46; (with_reducible refine (hS.out _).use ?_); rintro v w1 ⟨rfl, hu1⟩)
        | (with_reducible refine wp_serial (by kernel_rfl) (by kernel_rfl) (by repeat with_reducible (first | apply NoBad.then | apply NoBad.inBlock | apply NoBad.jump | exact NoBad.rets)) ?_) | fail)
      all_goals go_returns
      all_goals exact ⟨by first | rfl | simp [h2], (by repeat first | with_reducible (first | exact Upd.refl _ _ | assumption | apply Upd.drew | apply Upd.alloc) | refine Upd0.tr ?_ (by with_reducible assumption) | refine Upd.setCell ?_ (fun h => absurd h (by first | exact Nat.lt_irrefl _ | (simp only []; omega))) _)⟩
  all_goals
    clear hq hm hl1 hl2
    go_enter Try.func18, Try.ntmps18
    go_wp2_with (first | (with_reducible refine wp_serial (by kernel_rfl) (by kernel_rfl) (by repeat with_reducible (first | apply NoBad.then | apply NoBad.inBlock | apply NoBad.jump | exact NoBad.rets)) ?_) | fail)
    all_goals go_returns
    all_goals exact ⟨by first | rfl | simp, (by repeat first | with_reducible (first | exact Upd.refl _ _ | assumption | apply Upd.drew | apply Upd.alloc) | refine Upd0.tr ?_ (by with_reducible assumption) | refine Upd.setCell ?_ (fun h => absurd h (by first | exact Nat.lt_irrefl _ | (simp only []; omega))) _)⟩
end Go.Proofs.Ytijmbpokglohbaa
