/-
  What may be believed of a reply: Judge.
-/
import Derived.Test.YtijmbpokglohbaaKi
import Derived.Test.YtijmbpokglohbaaKb
namespace Go.Proofs.Ytijmbpokglohbaa
open Go.RowKit
set_option linter.unusedSimpArgs false
set_option linter.unusedVariables false
theorem cell13b {w : World} {b : Nat} {a0 a1 a2 a3 a4 a5 a6 a7 a8 a9 aA aB aC : Value} {t : TypeId} (h : w.heap[b]? = some (.cells #[a0, a1, a2, a3, a4, a5, a6, a7, a8, a9, aA, aB, aC] t (0, 0))) :
    w.cell? ⟨b, 0, none⟩ = some a0 ∧ w.cell? ⟨b, 1, none⟩ = some a1 ∧ w.cell? ⟨b, 2, none⟩ = some a2 ∧ w.cell? ⟨b, 3, none⟩ = some a3 ∧ w.cell? ⟨b, 4, none⟩ = some a4 ∧ w.cell? ⟨b, 5, none⟩ = some a5 ∧ w.cell? ⟨b, 6, none⟩ = some a6 ∧ w.cell? ⟨b, 7, none⟩ = some a7 ∧ w.cell? ⟨b, 8, none⟩ = some a8 ∧ w.cell? ⟨b, 9, none⟩ = some a9 ∧ w.cell? ⟨b, 10, none⟩ = some aA ∧ w.cell? ⟨b, 11, none⟩ = some aB ∧ w.cell? ⟨b, 12, none⟩ = some aC :=
  ⟨by rw [blk_cell h]; rfl, by rw [blk_cell h]; rfl, by rw [blk_cell h]; rfl, by rw [blk_cell h]; rfl, by rw [blk_cell h]; rfl, by rw [blk_cell h]; rfl, by rw [blk_cell h]; rfl, by rw [blk_cell h]; rfl, by rw [blk_cell h]; rfl, by rw [blk_cell h]; rfl, by rw [blk_cell h]; rfl, by rw [blk_cell h]; rfl, by rw [blk_cell h]; rfl⟩
def fst0 (p q : Int × Bs) : Int × Bs := if p.1 = 0 then q else p
theorem any_fnd (p : Rc → Bool) (l : List Rc) : l.any p = fndB p l := by
  induction l with
  | nil => rfl
  | cons x l ih => rw [List.any_cons, ih, fndB, fndB, List.find?_cons]; cases p x <;> rfl
theorem judge_rules (n : Bs) (k : Int) (tr : Bool) (rc : Int) (an ns : List Rc) (z : Bs) : judgeR n k tr rc an ns z =
    if undB n z && (!tr && (decide (rc = 0) || decide (rc = 3))) then fst0 (jAns n k (witL an z)) (fst0 (jAli n (witL an z)) (fst0 (jDen n rc (witL ns z)) (jRef n z rc (witL ns z)))) else (0, []) := by
  unfold judgeR
  split
  · rw [any_fnd]
    unfold jAns
    cases h1 : fndB (ansB n k) (witL an z) with
    | true => rfl
    | false =>
      simp only [fst0, if_false, if_true, Bool.false_eq_true]
      unfold jAli fndB fndV
      cases h2 : (witL an z).find? (aliB n) with
      | some r => simp
      | none =>
        simp only [Option.isSome_none, Bool.false_eq_true, if_false, if_true]
        unfold jDen fndB fndV
        cases h3 : (witL ns z).find? (denB n) with
        | some r =>
          simp only [Option.isSome_some, if_true, Option.getD_some]
          by_cases hc : rc = 3 <;> simp [hc]
        | none => simp [jRef] <;> rfl
  · rfl
def JSt (p1 p2 p3 : Int × Bs) (i : Value) : Prop := i = .int .i64 0 ∨ (i = .int .i64 1 ∧ p1.1 = 0) ∨ (i = .int .i64 2 ∧ p1.1 = 0 ∧ p2.1 = 0) ∨ (i = .int .i64 3 ∧ p1.1 = 0 ∧ p2.1 = 0 ∧ p3.1 = 0)
theorem jRef_no (n z : Bs) (c : Int) (ns : List Rc) : ¬ (jRef n z c ns).1 = 0 := by
  unfold jRef; split
  · split <;> simp
  · simp
theorem fst0_no {p q : Int × Bs} (h : ¬ p.1 = 0) : fst0 p q = p := by rw [fst0, if_neg h]
theorem fst0_go {p q : Int × Bs} (h : p.1 = 0) : fst0 p q = q := by rw [fst0, if_pos h]
abbrev jfn (f : Nat) : Value := .func (.func f) #[] #[]
theorem jix0 (a b c d : Value) (w : World) : (Instr.index 89 (.agg #[a, b, c, d]) (.int .i64 0)).run Try.prog w = .ok a w := by kernel_rfl
theorem jix1 (a b c d : Value) (w : World) : (Instr.index 89 (.agg #[a, b, c, d]) (.int .i64 1)).run Try.prog w = .ok b w := by kernel_rfl
theorem jix2 (a b c d : Value) (w : World) : (Instr.index 89 (.agg #[a, b, c, d]) (.int .i64 2)).run Try.prog w = .ok c w := by kernel_rfl
theorem jix3 (a b c d : Value) (w : World) : (Instr.index 89 (.agg #[a, b, c, d]) (.int .i64 3)).run Try.prog w = .ok d w := by kernel_rfl
theorem rcsh_wit {l : List Rc} {z : Bs} (h : rcsh l) : rcsh (witL l z) := ⟨Nat.le_trans (wit_len l z) h.1, fun x hx => h.2 x (wit_mem hx).1⟩
theorem r6_set {w : World} {b : Nat} {a0 a1 a2 a3 a4 a5 : Value} {t : TypeId} (h : w.heap[b]? = some (.cells #[a0, a1, a2, a3, a4, a5] t (0, 0))) (v0 v1 v2 v3 v4 v5 : Value) : ((((((w.setCell ⟨b, 0, none⟩ v0).setCell ⟨b, 1, none⟩ v1).setCell ⟨b, 2, none⟩ v2).setCell ⟨b, 3, none⟩ v3).setCell ⟨b, 4, none⟩ v4).setCell ⟨b, 5, none⟩ v5).heap[b]? = some (.cells #[v0, v1, v2, v3, v4, v5] t (0, 0)) := by
  simpa using blk_set (blk_set (blk_set (blk_set (blk_set (blk_set h 0 v0) 1 v1) 2 v2) 3 v3) 4 v4) 5 v5
theorem r6_upd (w : World) (b : Nat) (v0 v1 v2 v3 v4 v5 : Value) : Upd (fun k => k = b) w ((((((w.setCell ⟨b, 0, none⟩ v0).setCell ⟨b, 1, none⟩ v1).setCell ⟨b, 2, none⟩ v2).setCell ⟨b, 3, none⟩ v3).setCell ⟨b, 4, none⟩ v4).setCell ⟨b, 5, none⟩ v5) :=
  ((((((Upd.refl (fun k => k = b) w).setCell (p := ⟨b, 0, none⟩) (fun _ => rfl) v0).setCell (p := ⟨b, 1, none⟩) (fun _ => rfl) v1).setCell (p := ⟨b, 2, none⟩) (fun _ => rfl) v2).setCell (p := ⟨b, 3, none⟩) (fun _ => rfl) v3).setCell (p := ⟨b, 4, none⟩) (fun _ => rfl) v4).setCell (p := ⟨b, 5, none⟩) (fun _ => rfl) v5
theorem RsR.upN {w w3 W : World} {ao : Option Addr} {xs : List Rc} {b : Nat} (h : RsR w ao xs) (k : Upd0 w w3) (k2 : Upd (fun n => n = b) w3 W) (hb : w.heap.size ≤ b) : RsR W ao xs := by
  rcases h with rfl | ⟨g, o, h1, h2, h3⟩
  · exact .inl rfl
  · exact ((show RsR w ao xs from .inr ⟨g, o, h1, h2, h3⟩).up k).upB k2 (fun g' o' e hS => by rw [h1] at e; injection e with e; injection e with e; omega)
theorem RsR.upG {w3 W : World} {ao : Option Addr} {xs : List Rc} {b L : Nat} (h : RsR w3 ao xs) (k2 : Upd (fun n => n = b) w3 W) (hf : ∀ g o, ao = Option.some ⟨g, o, none⟩ → L ≤ g) (hb : b < L) : RsR W ao xs :=
  h.upB k2 (fun g o e hS => by have := hf g o e; omega)
/-- what holds once the judge lies in memory -/
structure JW (w W : World) (b : Nat) (n : Bs) (k : Int) (z : Bs) (c : Int) (a2 : Option Addr) (c2 : Nat) (A : List Rc) (a3 : Option Addr) (c3 : Nat) (N : List Rc) : Prop where
  j : JJ W b n k z c (.slice a2 A.length c2) (.slice a3 N.length c3)
  ra : RsR W a2 A
  rn : RsR W a3 N
  u : Upd0 w W
theorem JW.up {w W W' : World} {b : Nat} {n : Bs} {k : Int} {z : Bs} {c : Int} {a2 : Option Addr} {c2 : Nat} {A : List Rc} {a3 : Option Addr} {c3 : Nat} {N : List Rc} (h : JW w W b n k z c a2 c2 A a3 c3 N) (k' : Upd0 W W') : JW w W' b n k z c a2 c2 A a3 c3 N :=
  ⟨k'.block (fun h => h) h.j, h.ra.up k', h.rn.up k', h.u.tr k'⟩
set_option maxRecDepth 100000 in
set_option maxHeartbeats 8000000 in
theorem judge_w (n : Bs) (k : Int) (m : Msg) (q a ns x : Option Addr) (cq ca cn cx : Nat) (z : Bs) (w : World) (h : MsR w m q a ns x) (hn : n.length ≤ 5000) (hz : z.length ≤ 5000) (ha : rcsh m.an) (hs : rcsh m.ns) :
    Calls Try.prog 19 #[.agg #[.string ⟨n.toArray⟩, .int .i64 k], m.val q a ns x cq ca cn cx, .string ⟨z.toArray⟩] w (Rets fun r w' => r = .tuple #[.int .i64 (judgeR n k m.tr m.rc m.an m.ns z).1, .string ⟨(judgeR n k m.tr m.rc m.an m.ns z).2.toArray⟩] ∧ Upd0 w w') := by
  rw [judge_rules]
  have hU := Lib.hid (under_w n z (by omega) (by omega))
  have hWa := Lib.hid (fun (w' : World) (u : Upd0 w w') => within_bw a ca m.an z w' (h.an.up u) ha.1 ha.2 hz)
  have hWn := Lib.hid (fun (w' : World) (u : Upd0 w w') => within_bw ns cn m.ns z w' (h.ns.up u) hs.1 hs.2 hz)
  have hsa := Lib.hid (rcsh_wit (z := z) ha)
  have hsn := Lib.hid (rcsh_wit (z := z) hs)
  obtain ⟨id, re, op, au, tr, wa, av, rc, qs, an, nsl, ex, sz⟩ := m
  simp only [Msg.val] at hWa hWn hsa hsn ⊢
  obtain ⟨A, hA⟩ : ∃ A, witL an z = A := ⟨_, rfl⟩
  obtain ⟨N, hN⟩ : ∃ N, witL nsl z = N := ⟨_, rfl⟩
  rw [hA] at hWa hsa ⊢
  rw [hN] at hWn hsn ⊢
  clear hA hN h ha hs
  have hAl := hsa.out.1
  have hNl := hsn.out.1
  cases hu : undB n z with
  | false =>
    rw [hu] at hU
    clear hu
    rw [Bool.false_and]
    go_enter Try.func19, Try.ntmps19
    go_wp2_with (first
      | (go_at_call 47; (with_reducible refine (hU.out _).use ?_); rintro v w1 ⟨rfl, hu1⟩)
      | (with_reducible refine wp_serial (by kernel_rfl) (by kernel_rfl) (by repeat with_reducible (first | apply NoBad.then | apply NoBad.inBlock | apply NoBad.jump | exact NoBad.rets)) ?_) | fail)
    all_goals go_returns
    all_goals exact ⟨rfl, (by repeat first | with_reducible (first | exact Upd.refl _ _ | assumption | apply Upd.drew | apply Upd.alloc) | refine Upd0.tr ?_ (by with_reducible assumption) | refine Upd.setCell ?_ (fun h => absurd h (by first | exact Nat.lt_irrefl _ | (simp only []; omega))) _)⟩
  | true =>
    rw [hu] at hU
    clear hu
    cases tr with
    | true =>
      go_enter Try.func19, Try.ntmps19
      go_wp2_with (first
        | (go_at_call 47; (with_reducible refine (hU.out _).use ?_); rintro v w1 ⟨rfl, hu1⟩; have bm := Lib.hid (show w1.heap[w.heap.size + 1]? = some (.cells #[.int .i64 id, .bool re, .int .i64 op, .bool au, .bool true, .bool wa, .bool av, .int .i64 rc, .slice q qs.length cq, .slice a an.length ca, .slice ns nsl.length cn, .slice x ex.length cx, .int .i64 sz] 25 (0, 0)) from hu1.block (fun h => h) (alloc_last _ _ _ (by simp))); obtain ⟨m0, m1, m2, m3, m4, m5, m6, m7, m8, m9, mA, mB, mC⟩ := cell13b bm.out)
        | (with_reducible refine wp_serial (by kernel_rfl) (by kernel_rfl) (by repeat with_reducible (first | apply NoBad.then | apply NoBad.inBlock | apply NoBad.jump | exact NoBad.rets)) ?_) | fail)
      all_goals go_returns
      all_goals exact ⟨rfl, (by repeat first | with_reducible (first | exact Upd.refl _ _ | assumption | apply Upd.drew | apply Upd.alloc) | refine Upd0.tr ?_ (by with_reducible assumption) | refine Upd.setCell ?_ (fun h => absurd h (by first | exact Nat.lt_irrefl _ | (simp only []; omega))) _)⟩
    | false =>
      by_cases hrc : rc = 0 ∨ rc = 3
      · have hcond : (true && (!false && (decide (rc = 0) || decide (rc = 3)))) = true := by rcases hrc with h | h <;> simp [h]
        rw [hcond, if_pos rfl]
        clear hcond
        have hwk : ∃ (p1 p2 p3 p4 : Int × Bs), p1 = jAns n k A ∧ p2 = jAli n A ∧ p3 = jDen n rc N ∧ p4 = jRef n z rc N := ⟨_, _, _, _, rfl, rfl, rfl, rfl⟩
        obtain ⟨p1, p2, p3, p4, e1, e2, e3, e4⟩ := hwk
        have hR1 := Lib.hid (fun (a' : Option Addr) (c' : Nat) (nv : Value) (w' : World) (hr : RsR w' a' A) => answer_w n k z rc a' c' A nv w' hn hr hsa.out)
        have hR2 := Lib.hid (fun (a' : Option Addr) (c' : Nat) (nv : Value) (w' : World) (hr : RsR w' a' A) => alias_w n k z rc a' c' A nv w' hn hr hsa.out)
        have hR3 := Lib.hid (fun (a' : Option Addr) (c' : Nat) (av : Value) (w' : World) (hr : RsR w' a' N) => denial_w n k z rc a' c' N av w' hn hr hsn.out)
        have hR4 := Lib.hid (fun (a' : Option Addr) (c' : Nat) (av : Value) (w' : World) (hr : RsR w' a' N) => referral_w n k z rc a' c' N av w' hn hz hr hsn.out)
        have h4 := jRef_no n z rc N
        rw [← e1] at hR1 ⊢
        rw [← e2] at hR2 ⊢
        rw [← e3] at hR3 ⊢
        rw [← e4] at hR4 h4 ⊢
        clear e1 e2 e3 e4
        simp only [jV] at hR1 hR2 hR3 hR4
        have tk1 : True := trivial
        have hrc2 : ((rc != 0) = false) ∨ ((rc != 0) = true ∧ (rc != 3) = false) := by rcases hrc with h | h <;> simp [h]
        clear hrc
        have hj0 := jix0
        have hj1 := jix1
        have hj2 := jix2
        have hj3 := jix3
        rcases hrc2 with hr0 | ⟨hr0, hr3'⟩
        all_goals
          go_enter Try.func19, Try.ntmps19
          go_wp2_with (first
            | (go_at_call 47; (with_reducible refine (hU.out _).use ?_); rintro v w1 ⟨rfl, hu1⟩; have bm := Lib.hid (show w1.heap[w.heap.size + 1]? = some (.cells #[.int .i64 id, .bool re, .int .i64 op, .bool au, .bool false, .bool wa, .bool av, .int .i64 _, .slice q qs.length cq, .slice a an.length ca, .slice ns nsl.length cn, .slice x ex.length cx, .int .i64 sz] 25 (0, 0)) from hu1.block (fun h => h) (alloc_last _ _ _ (by simp))); obtain ⟨m0, m1, m2, m3, m4, m5, m6, m7, m8, m9, mA, mB, mC⟩ := cell13b bm.out; have bq := Lib.hid (show JQ w1 w.heap.size n k from hu1.block (fun h => h) (blk_alloc (alloc_last _ _ _ rfl))); obtain ⟨q0, q1⟩ := cell2w (show w1.heap[w.heap.size]? = _ from bq.out))
            | (go_at_call 22; have _t := tk1; clear tk1 _t; (with_reducible refine (hWa.out _ (by repeat first | with_reducible (first | exact Upd.refl _ _ | assumption | apply Upd.drew | apply Upd.alloc) | refine Upd0.tr ?_ (by with_reducible assumption) | refine Upd.setCell ?_ (fun h => absurd h (by first | exact Nat.lt_irrefl _ | (simp only []; omega))) _)).use ?_); rintro v w2 ⟨a2, c2, rfl, hr2, hu2, hf2⟩; have hr2h := Lib.hid hr2; have hf2h := Lib.hid hf2; clear hr2 hf2; have hs1 := blk_lt bm.out; have hs2 : w1.heap.size ≤ w2.heap.size := (show Upd0 w1 w2 from (by repeat first | with_reducible (first | exact Upd.refl _ _ | assumption | apply Upd.drew | apply Upd.alloc) | refine Upd0.tr ?_ (by with_reducible assumption) | refine Upd.setCell ?_ (fun h => absurd h (by first | exact Nat.lt_irrefl _ | (simp only []; omega))) _)).size)
            | (go_at_call 22; (with_reducible refine (hWn.out _ (by repeat first | with_reducible (first | exact Upd.refl _ _ | assumption | apply Upd.drew | apply Upd.alloc) | refine Upd0.tr ?_ (by with_reducible assumption) | refine Upd.setCell ?_ (fun h => absurd h (by first | exact Nat.lt_irrefl _ | (simp only []; omega))) _)).use ?_); rintro v w3 ⟨a3, c3, rfl, hr3, hu3, hf3⟩; have hr3h := Lib.hid hr3; have hf3h := Lib.hid hf3; clear hr3 hf3; have hu0 := Lib.hid (show Upd0 w w3 from (by repeat first | with_reducible (first | exact Upd.refl _ _ | assumption | apply Upd.drew | apply Upd.alloc) | refine Upd0.tr ?_ (by with_reducible assumption) | refine Upd.setCell ?_ (fun h => absurd h (by first | exact Nat.lt_irrefl _ | (simp only []; omega))) _)); have hu23 := Lib.hid (show Upd0 w2 w3 from (by repeat first | with_reducible (first | exact Upd.refl _ _ | assumption | apply Upd.drew | apply Upd.alloc) | refine Upd0.tr ?_ (by with_reducible assumption) | refine Upd.setCell ?_ (fun h => absurd h (by first | exact Nat.lt_irrefl _ | (simp only []; omega))) _)); have hs3 : w2.heap.size ≤ w3.heap.size := hu23.out.size; (try (have bJ := Lib.hid (show w3.heap[w1.heap.size]? = some (.cells #[.string ⟨#[]⟩, .int .i64 0, .string ⟨#[]⟩, .int .i64 0, .slice none 0 0, .slice none 0 0] 86 (0, 0)) from hu3.block (fun h => h) (hu2.block (fun h => h) (alloc_last _ _ _ rfl))); obtain ⟨jc0, jc1, jc2, jc3, jc4, jc5⟩ := jcells bJ.out; have jf := fun i => blk_frz bJ.out i; have hlJ := blk_lt bJ.out)); (try (have bJ := Lib.hid (show w3.heap[w2.heap.size]? = some (.cells #[.string ⟨#[]⟩, .int .i64 0, .string ⟨#[]⟩, .int .i64 0, .slice none 0 0, .slice none 0 0] 86 (0, 0)) from hu3.block (fun h => h) (alloc_last _ _ _ rfl)); obtain ⟨jc0, jc1, jc2, jc3, jc4, jc5⟩ := jcells bJ.out; have jf := fun i => blk_frz bJ.out i; have hlJ := blk_lt bJ.out)))
            | (refine And.intro hu2.ext ?_) | (refine And.intro hu3.ext ?_)
            | (with_reducible refine wp_serialA 0 [] 13 7 11 [0, 1, 2, 3, 4, 5, 6, 8, 9, 10, 13] [] [12, 14] [0, 1, 2, 3, 4, 5, 6, 8, 9, 10] [13] [12, 14] [0, 1, 2, 3, 4, 5, 6, 8, 9, 10] [] [12, 13, 14] _ _ [_, _, _, _, _, _, _, _, _, _, _] [] [_, _] [_, _, _, _, _, _, _, _, _, _] [_] [_, _] [_, _, _, _, _, _, _, _, _, _] [] [_, _, _] (by kernel_rfl) (by decide +kernel) rfl rfl rfl rfl rfl rfl rfl rfl rfl rfl rfl ⟨Nat.zero_le _, fun s hs => absurd hs List.not_mem_nil⟩ (by repeat with_reducible (first | apply NoBad.then | apply NoBad.inBlock | apply NoBad.jump | exact NoBad.rets)) ?_ ?_ ?_)
            | (with_reducible refine wp_serial (by kernel_rfl) (by kernel_rfl) (by repeat with_reducible (first | apply NoBad.then | apply NoBad.inBlock | apply NoBad.jump | exact NoBad.rets)) ?_) | fail)
          all_goals (first
            | (obtain ⟨b, hb⟩ : ∃ b, w2.heap.size = b := ⟨_, rfl⟩; rw [hb] at bJ; have hbw : w.heap.size ≤ b := (by omega); have kk := r6_upd w3 b (.string ⟨n.toArray⟩) (.int .i64 k) (.string ⟨z.toArray⟩) (.int .i64 rc) (.slice a2 A.length c2) (.slice a3 N.length c3); have hJ := Lib.hid (show JW w ((((((w3.setCell ⟨b, 0, none⟩ (.string ⟨n.toArray⟩)).setCell ⟨b, 1, none⟩ (.int .i64 k)).setCell ⟨b, 2, none⟩ (.string ⟨z.toArray⟩)).setCell ⟨b, 3, none⟩ (.int .i64 rc)).setCell ⟨b, 4, none⟩ (.slice a2 A.length c2)).setCell ⟨b, 5, none⟩ (.slice a3 N.length c3)) b n k z rc a2 c2 A a3 c3 N from ⟨r6_set bJ.out (.string ⟨n.toArray⟩) (.int .i64 k) (.string ⟨z.toArray⟩) (.int .i64 rc) (.slice a2 A.length c2) (.slice a3 N.length c3), (hr2h.out.upN hu23.out kk (by omega)), (hr3h.out.upG kk hf3h.out (by (try simp); omega)), Upd.trans hu0.out kk (fun n hn e => by omega)⟩); rw [hb]; clear kk bJ jc0 jc1 jc2 jc3 jc4 jc5 jf hlJ)
            | (obtain ⟨b, hb⟩ : ∃ b, w3.heap.size = b := ⟨_, rfl⟩; have hJ := Lib.hid (show JW w (w3.alloc (.cells #[.string ⟨n.toArray⟩, .int .i64 k, .string ⟨z.toArray⟩, .int .i64 rc, .slice a2 A.length c2, .slice a3 N.length c3] 86 (0, 0))) b n k z rc a2 c2 A a3 c3 N from ⟨alloc_last _ _ _ hb.symm, (hr2h.out.up hu23.out).up (by repeat first | with_reducible (first | exact Upd.refl _ _ | assumption | apply Upd.drew | apply Upd.alloc) | refine Upd0.tr ?_ (by with_reducible assumption) | refine Upd.setCell ?_ (fun h => absurd h (by first | exact Nat.lt_irrefl _ | (simp only []; omega))) _), hr3h.out.up (by repeat first | with_reducible (first | exact Upd.refl _ _ | assumption | apply Upd.drew | apply Upd.alloc) | refine Upd0.tr ?_ (by with_reducible assumption) | refine Upd.setCell ?_ (fun h => absurd h (by first | exact Nat.lt_irrefl _ | (simp only []; omega))) _), hu0.out.alloc _⟩); rw [hb])
            | (obtain ⟨b, hb⟩ : ∃ b, w1.heap.size = b := ⟨_, rfl⟩; rw [hb] at bJ; have hs2b := hu2.size; simp at hs2b; have hbw : w.heap.size ≤ b := (by omega); have kk := r6_upd w3 b (.string ⟨n.toArray⟩) (.int .i64 k) (.string ⟨z.toArray⟩) (.int .i64 rc) (.slice a2 A.length c2) (.slice a3 N.length c3); have hJ := Lib.hid (show JW w ((((((w3.setCell ⟨b, 0, none⟩ (.string ⟨n.toArray⟩)).setCell ⟨b, 1, none⟩ (.int .i64 k)).setCell ⟨b, 2, none⟩ (.string ⟨z.toArray⟩)).setCell ⟨b, 3, none⟩ (.int .i64 rc)).setCell ⟨b, 4, none⟩ (.slice a2 A.length c2)).setCell ⟨b, 5, none⟩ (.slice a3 N.length c3)) b n k z rc a2 c2 A a3 c3 N from ⟨r6_set bJ.out (.string ⟨n.toArray⟩) (.int .i64 k) (.string ⟨z.toArray⟩) (.int .i64 rc) (.slice a2 A.length c2) (.slice a3 N.length c3), ((hr2h.out.up hu23.out).upG kk hf2h.out (by (try simp); omega)), (hr3h.out.upG kk hf3h.out (by (try simp); omega)), Upd.trans hu0.out kk (fun n hn e => by omega)⟩); rw [hb]; clear kk bJ jc0 jc1 jc2 jc3 jc4 jc5 jf hlJ))
          all_goals
            go_loopw [10, 11, 12, 46] (fun _ _ _ ii wr => ∃ i : Value, Hid (JSt p1 p2 p3 i) ∧ Hid (JW w wr b n k z rc a2 c2 A a3 c3 N) ∧ ii = i) (fun _ _ _ ii _ => 4 - (intOf ii).toNat)
            case atStart => exact ⟨_, Lib.hid (.inl rfl), hJ, rfl⟩
            case round =>
              obtain ⟨i, hi, hJr', rfl⟩ := hrel
              have hJr := hJr'.out
              obtain ⟨x0, x1, x2, x3, x4, x5⟩ := jcells (show wr.heap[b]? = _ from hJr.j)
              have hi' := hi.out
              clear hi
              rcases hi' with hi | ⟨hi, h1⟩ | ⟨hi, h1, h2⟩ | ⟨hi, h1, h2, h3⟩
              · subst hi
                by_cases hk : p1.1 = 0
                · have hst := Lib.hid (show JSt p1 p2 p3 (.int .i64 1) from .inr (.inl ⟨rfl, hk⟩))
                  go_wp2_with (first | (go_at_call 48; (with_reducible refine (hR1.out _ _ _ _ hJr.ra).use ?_); rintro v w4 ⟨rfl, hu4⟩) | (with_reducible refine wp_serial (by kernel_rfl) (by kernel_rfl) (by repeat with_reducible (first | apply NoBad.then | apply NoBad.inBlock | apply NoBad.jump | exact NoBad.rets)) ?_) | fail)
                  go_roundw
                  case rel => exact ⟨_, hst, Lib.hid (hJr.up (by repeat first | with_reducible (first | exact Upd.refl _ _ | assumption | apply Upd.drew | apply Upd.alloc) | refine Upd0.tr ?_ (by with_reducible assumption) | refine Upd.setCell ?_ (fun h => absurd h (by first | exact Nat.lt_irrefl _ | (simp only []; omega))) _)), rfl⟩
                  case measure => simp [intOf]
                · have hk2 : (p1.1 != 0) = true := bne_iff_ne.2 hk
                  have hres := Lib.hid (show fst0 p1 (fst0 p2 (fst0 p3 p4)) = p1 by rw [fst0_no hk])
                  clear hk
                  go_wp2_with (first | (go_at_call 48; (with_reducible refine (hR1.out _ _ _ _ hJr.ra).use ?_); rintro v w4 ⟨rfl, hu4⟩) | (with_reducible refine wp_serial (by kernel_rfl) (by kernel_rfl) (by repeat with_reducible (first | apply NoBad.then | apply NoBad.inBlock | apply NoBad.jump | exact NoBad.rets)) ?_) | fail)
                  all_goals go_returns
                  all_goals exact ⟨by rw [hres.out]; rfl, (hJr.u).tr (by repeat first | with_reducible (first | exact Upd.refl _ _ | assumption | apply Upd.drew | apply Upd.alloc) | refine Upd0.tr ?_ (by with_reducible assumption) | refine Upd.setCell ?_ (fun h => absurd h (by first | exact Nat.lt_irrefl _ | (simp only []; omega))) _)⟩
              · subst hi
                replace h1 := Lib.hid h1
                by_cases hk : p2.1 = 0
                · have hst := Lib.hid (show JSt p1 p2 p3 (.int .i64 2) from .inr (.inr (.inl ⟨rfl, h1.out, hk⟩)))
                  go_wp2_with (first | (go_at_call 49; (with_reducible refine (hR2.out _ _ _ _ hJr.ra).use ?_); rintro v w4 ⟨rfl, hu4⟩) | (with_reducible refine wp_serial (by kernel_rfl) (by kernel_rfl) (by repeat with_reducible (first | apply NoBad.then | apply NoBad.inBlock | apply NoBad.jump | exact NoBad.rets)) ?_) | fail)
                  go_roundw
                  case rel => exact ⟨_, hst, Lib.hid (hJr.up (by repeat first | with_reducible (first | exact Upd.refl _ _ | assumption | apply Upd.drew | apply Upd.alloc) | refine Upd0.tr ?_ (by with_reducible assumption) | refine Upd.setCell ?_ (fun h => absurd h (by first | exact Nat.lt_irrefl _ | (simp only []; omega))) _)), rfl⟩
                  case measure => simp [intOf]
                · have hk2 : (p2.1 != 0) = true := bne_iff_ne.2 hk
                  have hres := Lib.hid (show fst0 p1 (fst0 p2 (fst0 p3 p4)) = p2 by rw [fst0_go h1.out, fst0_no hk])
                  clear hk
                  go_wp2_with (first | (go_at_call 49; (with_reducible refine (hR2.out _ _ _ _ hJr.ra).use ?_); rintro v w4 ⟨rfl, hu4⟩) | (with_reducible refine wp_serial (by kernel_rfl) (by kernel_rfl) (by repeat with_reducible (first | apply NoBad.then | apply NoBad.inBlock | apply NoBad.jump | exact NoBad.rets)) ?_) | fail)
                  all_goals go_returns
                  all_goals exact ⟨by rw [hres.out]; rfl, (hJr.u).tr (by repeat first | with_reducible (first | exact Upd.refl _ _ | assumption | apply Upd.drew | apply Upd.alloc) | refine Upd0.tr ?_ (by with_reducible assumption) | refine Upd.setCell ?_ (fun h => absurd h (by first | exact Nat.lt_irrefl _ | (simp only []; omega))) _)⟩
              · subst hi
                replace h1 := Lib.hid h1
                replace h2 := Lib.hid h2
                by_cases hk : p3.1 = 0
                · have hst := Lib.hid (show JSt p1 p2 p3 (.int .i64 3) from .inr (.inr (.inr ⟨rfl, h1.out, h2.out, hk⟩)))
                  go_wp2_with (first | (go_at_call 50; (with_reducible refine (hR3.out _ _ _ _ hJr.rn).use ?_); rintro v w4 ⟨rfl, hu4⟩) | (with_reducible refine wp_serial (by kernel_rfl) (by kernel_rfl) (by repeat with_reducible (first | apply NoBad.then | apply NoBad.inBlock | apply NoBad.jump | exact NoBad.rets)) ?_) | fail)
                  go_roundw
                  case rel => exact ⟨_, hst, Lib.hid (hJr.up (by repeat first | with_reducible (first | exact Upd.refl _ _ | assumption | apply Upd.drew | apply Upd.alloc) | refine Upd0.tr ?_ (by with_reducible assumption) | refine Upd.setCell ?_ (fun h => absurd h (by first | exact Nat.lt_irrefl _ | (simp only []; omega))) _)), rfl⟩
                  case measure => simp [intOf]
                · have hk2 : (p3.1 != 0) = true := bne_iff_ne.2 hk
                  have hres := Lib.hid (show fst0 p1 (fst0 p2 (fst0 p3 p4)) = p3 by rw [fst0_go h1.out, fst0_go h2.out, fst0_no hk])
                  clear hk
                  go_wp2_with (first | (go_at_call 50; (with_reducible refine (hR3.out _ _ _ _ hJr.rn).use ?_); rintro v w4 ⟨rfl, hu4⟩) | (with_reducible refine wp_serial (by kernel_rfl) (by kernel_rfl) (by repeat with_reducible (first | apply NoBad.then | apply NoBad.inBlock | apply NoBad.jump | exact NoBad.rets)) ?_) | fail)
                  all_goals go_returns
                  all_goals exact ⟨by rw [hres.out]; rfl, (hJr.u).tr (by repeat first | with_reducible (first | exact Upd.refl _ _ | assumption | apply Upd.drew | apply Upd.alloc) | refine Upd0.tr ?_ (by with_reducible assumption) | refine Upd.setCell ?_ (fun h => absurd h (by first | exact Nat.lt_irrefl _ | (simp only []; omega))) _)⟩
              · subst hi
                replace h1 := Lib.hid h1
                replace h2 := Lib.hid h2
                replace h3 := Lib.hid h3
                have hk2 : (p4.1 != 0) = true := bne_iff_ne.2 h4
                have hres := Lib.hid (show fst0 p1 (fst0 p2 (fst0 p3 p4)) = p4 by rw [fst0_go h1.out, fst0_go h2.out, fst0_go h3.out])
                go_wp2_with (first | (go_at_call 51; (with_reducible refine (hR4.out _ _ _ _ hJr.rn).use ?_); rintro v w4 ⟨rfl, hu4⟩) | (with_reducible refine wp_serial (by kernel_rfl) (by kernel_rfl) (by repeat with_reducible (first | apply NoBad.then | apply NoBad.inBlock | apply NoBad.jump | exact NoBad.rets)) ?_) | fail)
                all_goals go_returns
                all_goals exact ⟨by rw [hres.out]; rfl, (hJr.u).tr (by repeat first | with_reducible (first | exact Upd.refl _ _ | assumption | apply Upd.drew | apply Upd.alloc) | refine Upd0.tr ?_ (by with_reducible assumption) | refine Upd.setCell ?_ (fun h => absurd h (by first | exact Nat.lt_irrefl _ | (simp only []; omega))) _)⟩
      · have hcond : (true && (!false && (decide (rc = 0) || decide (rc = 3)))) = false := by simp; omega
        rw [hcond]
        have hr0 : (rc != 0) = true := bne_iff_ne.2 (fun h => hrc (.inl h))
        have hr3 : (rc != 3) = true := bne_iff_ne.2 (fun h => hrc (.inr h))
        clear hcond hrc
        go_enter Try.func19, Try.ntmps19
        go_wp2_with (first
          | (go_at_call 47; (with_reducible refine (hU.out _).use ?_); rintro v w1 ⟨rfl, hu1⟩; have bm := Lib.hid (show w1.heap[w.heap.size + 1]? = some (.cells #[.int .i64 id, .bool re, .int .i64 op, .bool au, .bool false, .bool wa, .bool av, .int .i64 rc, .slice q qs.length cq, .slice a an.length ca, .slice ns nsl.length cn, .slice x ex.length cx, .int .i64 sz] 25 (0, 0)) from hu1.block (fun h => h) (alloc_last _ _ _ (by simp))); obtain ⟨m0, m1, m2, m3, m4, m5, m6, m7, m8, m9, mA, mB, mC⟩ := cell13b bm.out)
          | (with_reducible refine wp_serial (by kernel_rfl) (by kernel_rfl) (by repeat with_reducible (first | apply NoBad.then | apply NoBad.inBlock | apply NoBad.jump | exact NoBad.rets)) ?_) | fail)
        all_goals go_returns
        all_goals exact ⟨rfl, (by repeat first | with_reducible (first | exact Upd.refl _ _ | assumption | apply Upd.drew | apply Upd.alloc) | refine Upd0.tr ?_ (by with_reducible assumption) | refine Upd.setCell ?_ (fun h => absurd h (by first | exact Nat.lt_irrefl _ | (simp only []; omega))) _)⟩
end Go.Proofs.Ytijmbpokglohbaa
