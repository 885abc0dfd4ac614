/-
  What may be believed of a reply: plain definitions, and what they say.
  What may be believed of a reply: whether names are the same; the closures over records; the first record of which something is so.
  What may be believed of a reply: the first record of which something is so.
  What may be believed of a reply: the records within a zone.
  What may be believed of a reply: the four rules.
-/
import Derived.Test.YtijmbpokglohbaaKh
import Derived.Test.YtijmbpokglohbaaKd
import Derived.Test.YtijmbpokglohbaaKe
import Derived.Test.YtijmbpokglohbaaKg
namespace Go.Proofs.Ytijmbpokglohbaa
set_option linter.unusedSimpArgs false
set_option linter.unusedVariables false
def witB (z : Bs) (r : Rc) : Bool := r.ok && undB r.nm z
def witL (l : List Rc) (z : Bs) : List Rc := l.filter (witB z)
def sameB (a b : Bs) : Bool := decide (fold a = fold b)
def ansB (n : Bs) (k : Int) (r : Rc) : Bool := sameB r.nm n && (decide (r.ty = k) || decide (k = 255))
def aliB (n : Bs) (r : Rc) : Bool := sameB r.nm n && decide (r.ty = 5)
def denB (n : Bs) (r : Rc) : Bool := decide (r.ty = 6) && undB n r.nm
def refB (n z : Bs) (r : Rc) : Bool := decide (r.ty = 2) && (undB n r.nm && !sameB r.nm z)
def deepB (b : Option Bs) (x : Bs) : Bool := match b with
  | none => true
  | some y => decide ((cutL y).length < (cutL x).length)
def bstep (n z : Bs) (b : Option Bs) (r : Rc) : Option Bs := if refB n z r && deepB b (fold r.nm) then some (fold r.nm) else b
def best (n z : Bs) (l : List Rc) : Option Bs := l.foldl (bstep n z) none
def judgeR (n : Bs) (k : Int) (tr : Bool) (rc : Int) (an ns : List Rc) (z : Bs) : Int × Bs :=
  if undB n z && (!tr && (decide (rc = 0) || decide (rc = 3))) then
    if (witL an z).any (ansB n k) then (1, fold n)
    else match (witL an z).find? (aliB n) with
    | some r => (5, fold (phN 5 r.d))
    | none => match (witL ns z).find? (denB n) with
      | some r => (if rc = 3 then 3 else 2, fold r.nm)
      | none => if rc = 0 then (match best n z (witL ns z) with | some x => (4, x) | none => (6, [])) else (6, [])
  else (0, [])
def matB (q m : Msg) : Bool := (m.re && !q.re) && ((decide (q.id = m.id) && (decide (q.op = 0) && decide (m.op = 0))) && (match q.qs, m.qs with
  | [a], [b] => decide (a.ty = b.ty) && sameB a.nm b.nm
  | _, _ => false))
theorem wit_app (a b : List Rc) (z : Bs) : witL (a ++ b) z = witL a z ++ witL b z := by simp [witL]
theorem wit_wit (l : List Rc) (z : Bs) : witL (witL l z) z = witL l z := by simp [witL, List.filter_filter]
theorem wit_len (l : List Rc) (z : Bs) : (witL l z).length ≤ l.length := List.length_filter_le _ _
theorem judge_beyond {n : Bs} {k : Int} {tr : Bool} {rc : Int} {an ns l : List Rc} {z : Bs} (h : witL l z = []) : judgeR n k tr rc (l ++ an) (ns ++ l) z = judgeR n k tr rc an ns z := by
  simp only [judgeR, wit_app, h, List.nil_append, List.append_nil]
theorem sameB_fold1 (a b : Bs) : sameB (fold a) b = sameB a b := by simp [sameB, fold_fold]
theorem sameB_fold2 (a b : Bs) : sameB a (fold b) = sameB a b := by simp [sameB, fold_fold]
theorem judge_fold (n : Bs) (k : Int) (tr : Bool) (rc : Int) (an ns : List Rc) (z : Bs) : judgeR (fold n) k tr rc an ns (fold z) = judgeR n k tr rc an ns z := by
  have h1 : witB (fold z) = witB z := by funext r; simp [witB, undB_fold2]
  have h2 : ansB (fold n) k = ansB n k := by funext r; simp [ansB, sameB_fold2]
  have h3 : aliB (fold n) = aliB n := by funext r; simp [aliB, sameB_fold2]
  have h4 : denB (fold n) = denB n := by funext r; simp [denB, undB_fold1]
  have h5 : bstep (fold n) (fold z) = bstep n z := by funext b r; simp [bstep, refB, sameB_fold2, undB_fold1]
  simp only [judgeR, witL, best, h1, h2, h3, h4, h5, undB_fold1, undB_fold2, fold_fold]
  rfl
theorem trn_same {a b : Bs} (ha : cutB a = true) (hb : cutB b = true) (h : trn a = trn b) : fold a = fold b := by
  obtain ⟨_, h1⟩ := cut_lab ha
  obtain ⟨_, h2⟩ := cut_lab hb
  obtain ⟨e1, o1⟩ := lab_jn a _ h1
  obtain ⟨e2, o2⟩ := lab_jn b _ h2
  have e3 : (cutL a).map smS = (cutL b).map smS := List.reverse_inj.1 h
  rw [fold, ha, fold, hb, if_pos rfl, if_pos rfl, ← e1, ← jn_smS _ o1, e3, jn_smS _ o2, e2]
theorem und_deep {a b : Bs} (h : undB a b = true) (hn : sameB a b = false) : (cutL b).length < (cutL a).length := by
  obtain ⟨h1, h2, h3⟩ := undB_iff.1 h
  have hl := h3.length_le
  simp only [trn, List.length_reverse, List.length_map] at hl
  rcases Nat.lt_or_ge (cutL b).length (cutL a).length with h | h
  · exact h
  · exfalso
    have : trn b = trn a := h3.eq_of_length (by simp [trn]; omega)
    simp [sameB, trn_same h1 h2 this.symm] at hn
theorem und_trans {a b c : Bs} (h1 : undB a b = true) (h2 : undB b c = true) : undB a c = true := by
  obtain ⟨p1, p2, p3⟩ := undB_iff.1 h1
  obtain ⟨q1, q2, q3⟩ := undB_iff.1 h2
  exact undB_iff.2 ⟨p1, q2, q3.trans p3⟩
theorem best_fact {n z : Bs} : ∀ (l : List Rc) (b : Option Bs) (P : Bs → Prop), (∀ x, b = some x → P x) → (∀ r ∈ l, refB n z r = true → P (fold r.nm)) → ∀ x, l.foldl (bstep n z) b = some x → P x
  | [], b, P, hb, _, x, h => hb x h
  | r :: l, b, P, hb, hl, x, h => by
    rw [List.foldl_cons] at h
    refine best_fact l _ P (fun y hy => ?_) (fun r' hr' => hl r' (List.mem_cons_of_mem _ hr')) x h
    unfold bstep at hy
    split at hy
    · rename_i hc
      injection hy with hy
      subst hy
      exact hl r List.mem_cons_self (by simp at hc; exact hc.1)
    · exact hb y hy
theorem wit_mem {l : List Rc} {z : Bs} {r : Rc} (h : r ∈ witL l z) : r ∈ l ∧ r.ok = true ∧ undB r.nm z = true := by
  simp only [witL, List.mem_filter, witB, Bool.and_eq_true] at h
  exact ⟨h.1, h.2.1, h.2.2⟩
/-- what each kind of reply says -/
def Down (n : Bs) (rc : Int) (z : Bs) (p : Int × Bs) : Prop :=
  (p.1 = 0 ∧ p.2 = []) ∨ (p.1 = 6 ∧ p.2 = []) ∨ (p.1 = 1 ∧ p.2 = fold n ∧ undB p.2 z = true) ∨ (p.1 = 5 ∧ fold p.2 = p.2) ∨ (p.1 = 2 ∧ ¬ rc = 3 ∧ undB p.2 z = true ∧ undB n p.2 = true) ∨ (p.1 = 3 ∧ rc = 3 ∧ undB p.2 z = true ∧ undB n p.2 = true) ∨ (p.1 = 4 ∧ rc = 0 ∧ undB p.2 z = true ∧ undB n p.2 = true ∧ (cutL z).length < (cutL p.2).length)
theorem judge_down (n : Bs) (k : Int) (tr : Bool) (rc : Int) (an ns : List Rc) (z : Bs) : Down n rc z (judgeR n k tr rc an ns z) := by
  unfold judgeR
  split
  · rename_i h0
    have hu : undB n z = true := by simp at h0; exact h0.1
    split
    · exact .inr (.inr (.inl ⟨rfl, rfl, by rw [undB_fold1]; exact hu⟩))
    · split
      · exact .inr (.inr (.inr (.inl ⟨rfl, fold_fold _⟩)))
      · split
        · rename_i r hr
          have h1 := List.mem_of_find?_eq_some hr
          have h2 := List.find?_some hr
          simp only [denB, Bool.and_eq_true] at h2
          have h3 := (wit_mem h1).2.2
          by_cases hrc : rc = 3
          · rw [if_pos hrc]
            exact .inr (.inr (.inr (.inr (.inr (.inl ⟨rfl, hrc, by rw [undB_fold1]; exact h3, by rw [undB_fold2]; exact h2.2⟩)))))
          · rw [if_neg hrc]
            exact .inr (.inr (.inr (.inr (.inl ⟨rfl, hrc, by rw [undB_fold1]; exact h3, by rw [undB_fold2]; exact h2.2⟩))))
        · split
          · rename_i hrc
            split
            · rename_i x hx
              have hP := best_fact (witL ns z) none (fun x => undB x z = true ∧ undB n x = true ∧ (cutL z).length < (cutL x).length) (fun x h => by cases h) (fun r hr h => by
                simp only [refB, Bool.and_eq_true, Bool.not_eq_true'] at h
                have h3 := (wit_mem hr).2.2
                refine ⟨by rw [undB_fold1]; exact h3, by rw [undB_fold2]; exact h.2.1, ?_⟩
                rw [(cut_fold r.nm).2, List.length_map]
                exact und_deep h3 h.2.2) x hx
              exact .inr (.inr (.inr (.inr (.inr (.inr ⟨rfl, hrc, hP.1, hP.2.1, hP.2.2⟩)))))
            · exact .inr (.inl ⟨rfl, rfl⟩)
          · exact .inr (.inl ⟨rfl, rfl⟩)
  · exact .inl ⟨rfl, rfl⟩
theorem und_up {z : Bs} (h : cutB z = true) (i : Nat) : jnB ((cutL z).drop i) = true ∧ undB z (jn ((cutL z).drop i)) = true := by
  obtain ⟨h1, h2⟩ := cut_lab h
  obtain ⟨h3, h4⟩ := lab_jn z _ h2
  have hall : ((cutL z).drop i).all lblOk = true := by
    rw [List.all_eq_true] at h4 ⊢
    exact fun x hx => h4 x (List.mem_of_mem_drop hx)
  have hlen : (jn ((cutL z).drop i)).length ≤ z.length := by
    have : z = jn ((cutL z).take i) ++ jn ((cutL z).drop i) := by rw [← jn_app, List.take_append_drop, h3]
    rw [this] ; simp
    have h9 : (cutL (jn ((cutL z).take i) ++ jn ((cutL z).drop i))) = cutL z := by rw [← this]
    rw [h9]; omega
  have hlab := jn_lab _ hall
  obtain ⟨c1, c2⟩ := cut_of (s := jn ((cutL z).drop i)) (by omega) hlab
  refine ⟨by rw [jnB, hall, decide_eq_true (by omega)]; rfl, undB_iff.2 ⟨h, c1, ?_⟩⟩
  simp only [trn, c2]
  rw [List.reverse_prefix]
  exact (List.drop_suffix i (cutL z)).map smS
theorem wit_up {l : List Rc} {z : Bs} (h : cutB z = true) (i : Nat) : witL (witL l z) (jn ((cutL z).drop i)) = witL l z := by
  unfold witL
  rw [List.filter_eq_self]
  intro r hr
  obtain ⟨_, h2, h3⟩ := wit_mem hr
  simp only [witB, h2, Bool.true_and]
  exact und_trans h3 (und_up h i).2
end Go.Proofs.Ytijmbpokglohbaa

namespace Go.Proofs.Ytijmbpokglohbaa
open Go.RowKit
set_option linter.unusedSimpArgs false
set_option linter.unusedVariables false
theorem same_w (a b : Bs) (ha : a.length ≤ 70000) (hb : b.length ≤ 70000) (w : World) : Calls Try.prog 45 #[.string ⟨a.toArray⟩, .string ⟨b.toArray⟩] w (Rets fun r w' => r = .bool (sameB a b) ∧ Upd0 w w') := by
  have h1 := Lib.hid (fold_w a ha)
  have h2 := Lib.hid (fold_w b hb)
  rw [sameB]
  obtain ⟨x, hx⟩ : ∃ x, fold a = x := ⟨_, rfl⟩
  obtain ⟨y, hy⟩ : ∃ y, fold b = y := ⟨_, rfl⟩
  rw [hx] at h1 ⊢
  rw [hy] at h2 ⊢
  clear hx hy
  have tk1 : True := trivial
  by_cases h : x = y
  · subst h
    rw [decide_eq_true rfl]
    go_enter Try.func45, Try.ntmps45
    go_wp2_with (first
      | (go_at_call 66; have _t := tk1; clear tk1 _t; (with_reducible refine (h1.out _).use ?_); rintro v w1 ⟨rfl, hu1⟩)
      | (go_at_call 66; (with_reducible refine (h2.out _).use ?_); rintro v w2 ⟨rfl, hu2⟩)
      | (with_reducible refine wp_serial (by kernel_rfl) (by kernel_rfl) (by repeat with_reducible (first | apply NoBad.then | apply NoBad.inBlock | apply NoBad.jump | exact NoBad.rets)) ?_) | fail)
    all_goals go_returns
    all_goals exact ⟨by first | rfl | simp, (by repeat first | with_reducible (first | exact Upd.refl _ _ | assumption | apply Upd.drew | apply Upd.alloc) | refine Upd0.tr ?_ (by with_reducible assumption) | refine Upd.setCell ?_ (fun h => absurd h (by first | exact Nat.lt_irrefl _ | (simp only []; omega))) _)⟩
  · rw [decide_eq_false h]
    have h3 : (x == y) = false := beq_eq_false_iff_ne.2 h
    clear h
    go_enter Try.func45, Try.ntmps45
    go_wp2_with (first
      | (go_at_call 66; have _t := tk1; clear tk1 _t; (with_reducible refine (h1.out _).use ?_); rintro v w1 ⟨rfl, hu1⟩)
      | (go_at_call 66; (with_reducible refine (h2.out _).use ?_); rintro v w2 ⟨rfl, hu2⟩)
      | (with_reducible refine wp_serial (by kernel_rfl) (by kernel_rfl) (by repeat with_reducible (first | apply NoBad.then | apply NoBad.inBlock | apply NoBad.jump | exact NoBad.rets)) ?_) | fail)
    all_goals go_returns
    all_goals exact ⟨by first | rfl | simp [h3], (by repeat first | with_reducible (first | exact Upd.refl _ _ | assumption | apply Upd.drew | apply Upd.alloc) | refine Upd0.tr ?_ (by with_reducible assumption) | refine Upd.setCell ?_ (fun h => absurd h (by first | exact Nat.lt_irrefl _ | (simp only []; omega))) _)⟩
theorem rsame_w (a b : Bs) (ha : a.length ≤ 70000) (hb : b.length ≤ 70000) (w : World) : Calls Try.prog 46 #[.string ⟨a.toArray⟩, .string ⟨b.toArray⟩] w (Rets fun r w' => r = .bool (sameB a b) ∧ Upd0 w w') := by
  have h1 := Lib.hid (rfold_w a ha)
  have h2 := Lib.hid (rfold_w b hb)
  rw [sameB]
  obtain ⟨x, hx⟩ : ∃ x, fold a = x := ⟨_, rfl⟩
  obtain ⟨y, hy⟩ : ∃ y, fold b = y := ⟨_, rfl⟩
  rw [hx] at h1 ⊢
  rw [hy] at h2 ⊢
  clear hx hy
  have tk1 : True := trivial
  by_cases h : x = y
  · subst h
    rw [decide_eq_true rfl]
    go_enter Try.func46, Try.ntmps46
    go_wp2_with (first
      | (go_at_call 28; have _t := tk1; clear tk1 _t; (with_reducible refine (h1.out _).use ?_); rintro v w1 ⟨rfl, hu1⟩)
      | (go_at_call 28; (with_reducible refine (h2.out _).use ?_); rintro v w2 ⟨rfl, hu2⟩)
      | (with_reducible refine wp_serial (by kernel_rfl) (by kernel_rfl) (by repeat with_reducible (first | apply NoBad.then | apply NoBad.inBlock | apply NoBad.jump | exact NoBad.rets)) ?_) | fail)
    all_goals go_returns
    all_goals exact ⟨by first | rfl | simp, (by repeat first | with_reducible (first | exact Upd.refl _ _ | assumption | apply Upd.drew | apply Upd.alloc) | refine Upd0.tr ?_ (by with_reducible assumption) | refine Upd.setCell ?_ (fun h => absurd h (by first | exact Nat.lt_irrefl _ | (simp only []; omega))) _)⟩
  · rw [decide_eq_false h]
    have h3 : (x == y) = false := beq_eq_false_iff_ne.2 h
    clear h
    go_enter Try.func46, Try.ntmps46
    go_wp2_with (first
      | (go_at_call 28; have _t := tk1; clear tk1 _t; (with_reducible refine (h1.out _).use ?_); rintro v w1 ⟨rfl, hu1⟩)
      | (go_at_call 28; (with_reducible refine (h2.out _).use ?_); rintro v w2 ⟨rfl, hu2⟩)
      | (with_reducible refine wp_serial (by kernel_rfl) (by kernel_rfl) (by repeat with_reducible (first | apply NoBad.then | apply NoBad.inBlock | apply NoBad.jump | exact NoBad.rets)) ?_) | fail)
    all_goals go_returns
    all_goals exact ⟨by first | rfl | simp [h3], (by repeat first | with_reducible (first | exact Upd.refl _ _ | assumption | apply Upd.drew | apply Upd.alloc) | refine Upd0.tr ?_ (by with_reducible assumption) | refine Upd.setCell ?_ (fun h => absurd h (by first | exact Nat.lt_irrefl _ | (simp only []; omega))) _)⟩
/-! ### the closures -/
theorem jcells {w : World} {b : Nat} {a0 a1 a2 a3 a4 a5 : Value} {t : TypeId} (h : w.heap[b]? = some (.cells #[a0, a1, a2, a3, a4, a5] t (0, 0))) : w.cell? ⟨b, 0, none⟩ = some a0 ∧ w.cell? ⟨b, 1, none⟩ = some a1 ∧ w.cell? ⟨b, 2, none⟩ = some a2 ∧ w.cell? ⟨b, 3, none⟩ = some a3 ∧ w.cell? ⟨b, 4, none⟩ = some a4 ∧ w.cell? ⟨b, 5, none⟩ = some a5 :=
  ⟨by rw [blk_cell h]; rfl, by rw [blk_cell h]; rfl, by rw [blk_cell h]; rfl, by rw [blk_cell h]; rfl, by rw [blk_cell h]; rfl, by rw [blk_cell h]; rfl⟩
/-- the block that a closure has taken -/
abbrev JQ (w : World) (b : Nat) (n : Bs) (k : Int) : Prop := w.heap[b]? = some (.cells #[.string ⟨n.toArray⟩, .int .i64 k] 31 (0, 0))
abbrev JJ (w : World) (b : Nat) (n : Bs) (k : Int) (z : Bs) (c : Int) (av nv : Value) : Prop := w.heap[b]? = some (.cells #[.string ⟨n.toArray⟩, .int .i64 k, .string ⟨z.toArray⟩, .int .i64 c, av, nv] 86 (0, 0))
abbrev rcell (w : World) (b : Nat) (x : Rc) : Prop := w.heap[b]? = some (.cells #[.string ⟨x.nm.toArray⟩, .int .i64 x.ty, .int .i64 x.tl, .string ⟨x.d.toArray⟩] 82 (0, 0))
set_option maxRecDepth 100000 in
theorem ans_w (x : Rc) (hx : x.nm.length ≤ 5000) (b : Nat) (n : Bs) (hn : n.length ≤ 5000) (k : Int) (w : World) (hb : JQ w b n k) :
    Calls Try.prog 72 #[x.val, .pointer (some ⟨b, 0, none⟩)] w (Rets fun r w' => r = .bool (ansB n k x) ∧ Upd0 w w') := by
  obtain ⟨c0, c1⟩ := cell2w (show w.heap[b]? = _ from hb)
  have hbl := blk_lt hb
  have hne : ¬ b = w.heap.size := by omega
  have hne' : ¬ w.heap.size = b := by omega
  have hbh := Lib.hid hb
  have hS := Lib.hid (same_w x.nm n (by omega) (by omega))
  obtain ⟨nm, ty, tl, d⟩ := x
  simp only [ansB, Rc.val] at hS hx ⊢
  clear hb
  cases hs : sameB nm n with
  | false =>
    rw [hs] at hS
    clear hs
    rw [Bool.false_and]
    go_enter Try.func72, Try.ntmps72
    go_wp2_with (first
      | (go_at_call 45; (with_reducible refine (hS.out _).use ?_); rintro v w1 ⟨rfl, hu1⟩)
      | (with_reducible refine wp_serial (by kernel_rfl) (by kernel_rfl) (by repeat with_reducible (first | apply NoBad.then | apply NoBad.inBlock | apply NoBad.jump | exact NoBad.rets)) ?_) | fail)
    all_goals go_returns
    all_goals exact ⟨rfl, (by repeat first | with_reducible (first | exact Upd.refl _ _ | assumption | apply Upd.drew | apply Upd.alloc) | refine Upd0.tr ?_ (by with_reducible assumption) | refine Upd.setCell ?_ (fun h => absurd h (by first | exact Nat.lt_irrefl _ | (simp only []; omega))) _)⟩
  | true =>
    rw [hs] at hS
    clear hs
    by_cases h1 : ty = k
    · rw [decide_eq_true h1]
      subst h1
      go_enter Try.func72, Try.ntmps72
      go_wp2_with (first
        | (go_at_call 45; (with_reducible refine (hS.out _).use ?_); rintro v w1 ⟨rfl, hu1⟩; have b1 := Lib.hid (hu1.block (fun h => h) (blk_alloc hbh.out)); obtain ⟨x0, x1⟩ := cell2w b1.out; have b2 := Lib.hid (show rcell w1 w.heap.size ⟨nm, ty, tl, d⟩ from hu1.block (fun h => h) (alloc_last _ _ _ rfl)); obtain ⟨y0, y1, y2, y3, y4⟩ := four b2.out)
        | (with_reducible refine wp_serial (by kernel_rfl) (by kernel_rfl) (by repeat with_reducible (first | apply NoBad.then | apply NoBad.inBlock | apply NoBad.jump | exact NoBad.rets)) ?_) | fail)
      all_goals go_returns
      all_goals exact ⟨by first | rfl | simp, (by repeat first | with_reducible (first | exact Upd.refl _ _ | assumption | apply Upd.drew | apply Upd.alloc) | refine Upd0.tr ?_ (by with_reducible assumption) | refine Upd.setCell ?_ (fun h => absurd h (by first | exact Nat.lt_irrefl _ | (simp only []; omega))) _)⟩
    · rw [decide_eq_false h1]
      have h2 : (ty == k) = false := beq_eq_false_iff_ne.2 h1
      clear h1
      by_cases h3 : k = 255
      · subst h3
        go_enter Try.func72, Try.ntmps72
        go_wp2_with (first
          | (go_at_call 45; (with_reducible refine (hS.out _).use ?_); rintro v w1 ⟨rfl, hu1⟩; have b1 := Lib.hid (hu1.block (fun h => h) (blk_alloc hbh.out)); obtain ⟨x0, x1⟩ := cell2w b1.out; have b2 := Lib.hid (show rcell w1 w.heap.size ⟨nm, ty, tl, d⟩ from hu1.block (fun h => h) (alloc_last _ _ _ rfl)); obtain ⟨y0, y1, y2, y3, y4⟩ := four b2.out)
          | (with_reducible refine wp_serial (by kernel_rfl) (by kernel_rfl) (by repeat with_reducible (first | apply NoBad.then | apply NoBad.inBlock | apply NoBad.jump | exact NoBad.rets)) ?_) | fail)
        all_goals go_returns
        all_goals exact ⟨by first | rfl | simp, (by repeat first | with_reducible (first | exact Upd.refl _ _ | assumption | apply Upd.drew | apply Upd.alloc) | refine Upd0.tr ?_ (by with_reducible assumption) | refine Upd.setCell ?_ (fun h => absurd h (by first | exact Nat.lt_irrefl _ | (simp only []; omega))) _)⟩
      · rw [decide_eq_false h3]
        have h4 : (k == 255) = false := beq_eq_false_iff_ne.2 h3
        clear h3
        go_enter Try.func72, Try.ntmps72
        go_wp2_with (first
          | (go_at_call 45; (with_reducible refine (hS.out _).use ?_); rintro v w1 ⟨rfl, hu1⟩; have b1 := Lib.hid (hu1.block (fun h => h) (blk_alloc hbh.out)); obtain ⟨x0, x1⟩ := cell2w b1.out; have b2 := Lib.hid (show rcell w1 w.heap.size ⟨nm, ty, tl, d⟩ from hu1.block (fun h => h) (alloc_last _ _ _ rfl)); obtain ⟨y0, y1, y2, y3, y4⟩ := four b2.out)
          | (with_reducible refine wp_serial (by kernel_rfl) (by kernel_rfl) (by repeat with_reducible (first | apply NoBad.then | apply NoBad.inBlock | apply NoBad.jump | exact NoBad.rets)) ?_) | fail)
        all_goals go_returns
        all_goals exact ⟨by first | rfl | simp [h2, h4], (by repeat first | with_reducible (first | exact Upd.refl _ _ | assumption | apply Upd.drew | apply Upd.alloc) | refine Upd0.tr ?_ (by with_reducible assumption) | refine Upd.setCell ?_ (fun h => absurd h (by first | exact Nat.lt_irrefl _ | (simp only []; omega))) _)⟩
set_option maxRecDepth 100000 in
theorem ali_w (x : Rc) (hx : x.nm.length ≤ 5000) (b : Nat) (n : Bs) (hn : n.length ≤ 5000) (k : Int) (z : Bs) (c : Int) (av nv : Value) (w : World) (hb : JJ w b n k z c av nv) :
    Calls Try.prog 73 #[x.val, .pointer (some ⟨b, 0, none⟩)] w (Rets fun r w' => r = .bool (aliB n x) ∧ Upd0 w w') := by
  obtain ⟨c0, c1, c2, c3, c4, c5⟩ := jcells (show w.heap[b]? = _ from hb)
  have hbl := blk_lt hb
  have hne : ¬ b = w.heap.size := by omega
  have hne' : ¬ w.heap.size = b := by omega
  have hS := Lib.hid (same_w x.nm n (by omega) (by omega))
  obtain ⟨nm, ty, tl, d⟩ := x
  simp only [aliB, Rc.val] at hS hx ⊢
  clear hb
  cases hs : sameB nm n with
  | false =>
    rw [hs] at hS
    clear hs
    rw [Bool.false_and]
    go_enter Try.func73, Try.ntmps73
    go_wp2_with (first
      | (go_at_call 45; (with_reducible refine (hS.out _).use ?_); rintro v w1 ⟨rfl, hu1⟩)
      | (with_reducible refine wp_serial (by kernel_rfl) (by kernel_rfl) (by repeat with_reducible (first | apply NoBad.then | apply NoBad.inBlock | apply NoBad.jump | exact NoBad.rets)) ?_) | fail)
    all_goals go_returns
    all_goals exact ⟨rfl, (by repeat first | with_reducible (first | exact Upd.refl _ _ | assumption | apply Upd.drew | apply Upd.alloc) | refine Upd0.tr ?_ (by with_reducible assumption) | refine Upd.setCell ?_ (fun h => absurd h (by first | exact Nat.lt_irrefl _ | (simp only []; omega))) _)⟩
  | true =>
    rw [hs] at hS
    clear hs
    by_cases h1 : ty = 5
    · subst h1
      go_enter Try.func73, Try.ntmps73
      go_wp2_with (first
        | (go_at_call 45; (with_reducible refine (hS.out _).use ?_); rintro v w1 ⟨rfl, hu1⟩; have b2 := Lib.hid (show rcell w1 w.heap.size ⟨nm, 5, tl, d⟩ from hu1.block (fun h => h) (alloc_last _ _ _ rfl)); obtain ⟨y0, y1, y2, y3, y4⟩ := four b2.out)
        | (with_reducible refine wp_serial (by kernel_rfl) (by kernel_rfl) (by repeat with_reducible (first | apply NoBad.then | apply NoBad.inBlock | apply NoBad.jump | exact NoBad.rets)) ?_) | fail)
      all_goals go_returns
      all_goals exact ⟨by first | rfl | simp, (by repeat first | with_reducible (first | exact Upd.refl _ _ | assumption | apply Upd.drew | apply Upd.alloc) | refine Upd0.tr ?_ (by with_reducible assumption) | refine Upd.setCell ?_ (fun h => absurd h (by first | exact Nat.lt_irrefl _ | (simp only []; omega))) _)⟩
    · rw [decide_eq_false h1]
      have h2 : (ty == 5) = false := beq_eq_false_iff_ne.2 h1
      clear h1
      go_enter Try.func73, Try.ntmps73
      go_wp2_with (first
        | (go_at_call 45; (with_reducible refine (hS.out _).use ?_); rintro v w1 ⟨rfl, hu1⟩; have b2 := Lib.hid (show rcell w1 w.heap.size ⟨nm, ty, tl, d⟩ from hu1.block (fun h => h) (alloc_last _ _ _ rfl)); obtain ⟨y0, y1, y2, y3, y4⟩ := four b2.out)
        | (with_reducible refine wp_serial (by kernel_rfl) (by kernel_rfl) (by repeat with_reducible (first | apply NoBad.then | apply NoBad.inBlock | apply NoBad.jump | exact NoBad.rets)) ?_) | fail)
      all_goals go_returns
      all_goals exact ⟨by first | rfl | simp [h2], (by repeat first | with_reducible (first | exact Upd.refl _ _ | assumption | apply Upd.drew | apply Upd.alloc) | refine Upd0.tr ?_ (by with_reducible assumption) | refine Upd.setCell ?_ (fun h => absurd h (by first | exact Nat.lt_irrefl _ | (simp only []; omega))) _)⟩
set_option maxRecDepth 100000 in
theorem den_w (x : Rc) (hx : x.nm.length ≤ 5000) (b : Nat) (n : Bs) (hn : n.length ≤ 5000) (k : Int) (z : Bs) (c : Int) (av nv : Value) (w : World) (hb : JJ w b n k z c av nv) :
    Calls Try.prog 75 #[x.val, .pointer (some ⟨b, 0, none⟩)] w (Rets fun r w' => r = .bool (denB n x) ∧ Upd0 w w') := by
  obtain ⟨c0, c1, c2, c3, c4, c5⟩ := jcells (show w.heap[b]? = _ from hb)
  have hbl := blk_lt hb
  have hne : ¬ b = w.heap.size := by omega
  have hne' : ¬ w.heap.size = b := by omega
  have hS := Lib.hid (under_w n x.nm (by omega) (by omega))
  obtain ⟨nm, ty, tl, d⟩ := x
  simp only [denB, Rc.val] at hS hx ⊢
  clear hb
  by_cases h1 : ty = 6
  · subst h1
    cases hs : undB n nm with
    | false =>
      rw [hs] at hS
      clear hs
      go_enter Try.func75, Try.ntmps75
      go_wp2_with (first
        | (go_at_call 47; (with_reducible refine (hS.out _).use ?_); rintro v w1 ⟨rfl, hu1⟩)
        | (with_reducible refine wp_serial (by kernel_rfl) (by kernel_rfl) (by repeat with_reducible (first | apply NoBad.then | apply NoBad.inBlock | apply NoBad.jump | exact NoBad.rets)) ?_) | fail)
      all_goals go_returns
      all_goals exact ⟨by first | rfl | simp, (by repeat first | with_reducible (first | exact Upd.refl _ _ | assumption | apply Upd.drew | apply Upd.alloc) | refine Upd0.tr ?_ (by with_reducible assumption) | refine Upd.setCell ?_ (fun h => absurd h (by first | exact Nat.lt_irrefl _ | (simp only []; omega))) _)⟩
    | true =>
      rw [hs] at hS
      clear hs
      go_enter Try.func75, Try.ntmps75
      go_wp2_with (first
        | (go_at_call 47; (with_reducible refine (hS.out _).use ?_); rintro v w1 ⟨rfl, hu1⟩)
        | (with_reducible refine wp_serial (by kernel_rfl) (by kernel_rfl) (by repeat with_reducible (first | apply NoBad.then | apply NoBad.inBlock | apply NoBad.jump | exact NoBad.rets)) ?_) | fail)
      all_goals go_returns
      all_goals exact ⟨by first | rfl | simp, (by repeat first | with_reducible (first | exact Upd.refl _ _ | assumption | apply Upd.drew | apply Upd.alloc) | refine Upd0.tr ?_ (by with_reducible assumption) | refine Upd.setCell ?_ (fun h => absurd h (by first | exact Nat.lt_irrefl _ | (simp only []; omega))) _)⟩
  · rw [decide_eq_false h1, Bool.false_and]
    have h2 : (ty == 6) = false := beq_eq_false_iff_ne.2 h1
    clear h1
    go_enter Try.func75, Try.ntmps75
    go_wp2_with (first
      | (go_at_call 47; (with_reducible refine (hS.out _).use ?_); rintro v w1 ⟨rfl, hu1⟩)
      | (with_reducible refine wp_serial (by kernel_rfl) (by kernel_rfl) (by repeat with_reducible (first | apply NoBad.then | apply NoBad.inBlock | apply NoBad.jump | exact NoBad.rets)) ?_) | fail)
    all_goals go_returns
    all_goals exact ⟨by first | rfl | simp [h2], (by repeat first | with_reducible (first | exact Upd.refl _ _ | assumption | apply Upd.drew | apply Upd.alloc) | refine Upd0.tr ?_ (by with_reducible assumption) | refine Upd.setCell ?_ (fun h => absurd h (by first | exact Nat.lt_irrefl _ | (simp only []; omega))) _)⟩
end Go.Proofs.Ytijmbpokglohbaa

namespace Go.Proofs.Ytijmbpokglohbaa
open Go.RowKit
set_option linter.unusedSimpArgs false
set_option linter.unusedVariables false
def IdxR (p : Rc → Bool) (xs : List Rc) (z : Int) : Prop := (z = -1 ∧ xs.find? p = none) ∨ ∃ (i : Nat) (x : Rc), z = i ∧ xs[i]? = some x ∧ xs.find? p = some x
theorem find_at {p : Rc → Bool} : ∀ {xs : List Rc} {j : Nat} {x : Rc}, (xs.take j).find? p = none → xs[j]? = some x → p x = true → xs.find? p = some x
  | [], j, x, _, hx, _ => by simp at hx
  | y :: xs, 0, x, _, hx, hp => by
    simp only [List.getElem?_cons_zero, Option.some.injEq] at hx
    subst hx
    rw [List.find?_cons, hp]
  | y :: xs, j + 1, x, h, hx, hp => by
    rw [List.take_succ_cons, List.find?_cons] at h
    cases hy : p y with
    | true => rw [hy] at h; cases h
    | false =>
      rw [hy] at h
      rw [List.find?_cons, hy]
      exact find_at h (by simpa using hx) hp
theorem find_more {p : Rc → Bool} {xs : List Rc} {j : Nat} {x : Rc} (h : (xs.take j).find? p = none) (hx : xs[j]? = some x) (hp : p x = false) : (xs.take (j + 1)).find? p = none := by
  rw [List.take_add_one, hx, List.find?_append, h]; simp [hp]
theorem find_end {p : Rc → Bool} {xs : List Rc} {j : Nat} (h : (xs.take j).find? p = none) (hj : xs.length ≤ j) : xs.find? p = none := by rwa [List.take_of_length_le hj] at h
theorem idx_none {p : Rc → Bool} {xs : List Rc} (h : xs.find? p = none) : IdxR p xs (-1) := .inl ⟨rfl, h⟩
theorem idx_some {p : Rc → Bool} {xs : List Rc} {i : Nat} {x : Rc} (hx : xs[i]? = some x) (h : xs.find? p = some x) : IdxR p xs i := .inr ⟨i, x, rfl, hx, h⟩
/-- the record found, or none -/
def fndV (p : Rc → Bool) (xs : List Rc) : Rc := (xs.find? p).getD ⟨[], 0, 0, []⟩
def fndB (p : Rc → Bool) (xs : List Rc) : Bool := (xs.find? p).isSome
def rcsh (xs : List Rc) : Prop := xs.length ≤ 5000 ∧ ∀ x ∈ xs, x.nm.length ≤ 5000 ∧ x.d.length ≤ 5000
theorem r4_set {w : World} {b : Nat} {a0 a1 a2 a3 : Value} {t : TypeId} (h : w.heap[b]? = some (.cells #[a0, a1, a2, a3] t (0, 0))) (v0 v1 v2 v3 : Value) : ((((w.setCell ⟨b, 0, none⟩ v0).setCell ⟨b, 1, none⟩ v1).setCell ⟨b, 2, none⟩ v2).setCell ⟨b, 3, none⟩ v3).heap[b]? = some (.cells #[v0, v1, v2, v3] t (0, 0)) := by
  simpa using blk_set (blk_set (blk_set (blk_set h 0 v0) 1 v1) 2 v2) 3 v3
theorem res_rc {fn : Func} {c r1 : Tmp} (hfn : fn.results = #[.cell c 82, .tmp r1]) {tmps : Array Value} {b : Nat} (ht : tmps.getD c undef = .pointer (some ⟨b, 0, none⟩)) {W : World} {a0 a1 a2 a3 : Value} (h : W.heap[b]? = some (.cells #[a0, a1, a2, a3] 82 (0, 0))) :
    (results fn tmps).run Try.prog W = .ok (.tuple #[.agg #[a0, a1, a2, a3], tmps.getD r1 undef]) W := by
  obtain ⟨h0, h1, h2, h3, _⟩ := four h
  have ht' : tmps[c]?.getD undef = .pointer (some ⟨b, 0, none⟩) := by rw [← Array.getD_eq_getD_getElem?]; exact ht
  simp [results, hfn, ht', go_sem, h0, h1, h2, h3]
set_option maxRecDepth 100000 in
set_option maxHeartbeats 2000000 in
theorem idxba_w (ao : Option Addr) (cap : Nat) (xs : List Rc) (b : Nat) (n : Bs) (k : Int) (hn : n.length ≤ 5000) (w : World) (h : RsR w ao xs) (hs : rcsh xs) (hb : JQ w b n k) :
    Calls Try.prog 94 #[.slice ao xs.length cap, .func (.func 72) #[] #[.pointer (some ⟨b, 0, none⟩)]] w (Rets fun r w' => ∃ z : Int, r = .int .i64 z ∧ IdxR (ansB n k) xs z ∧ Upd0 w w') := by
  have hh := Lib.hid h
  have hl := hs.1
  have hsh := Lib.hid hs.2
  have hcw := Lib.hid (fun (x : Rc) (hx : x.nm.length ≤ 5000 ∧ x.d.length ≤ 5000) (w' : World) (hu : Upd0 w w') => ans_w x hx.1 b n hn k w' (hu.block (fun h => h) hb))
  obtain ⟨p, hp⟩ : ∃ p, (ansB n k) = p := ⟨_, rfl⟩
  rw [hp] at hcw ⊢
  clear h hs hb hp
  go_enter Try.func94, Try.ntmps94
  go_wp2_with (first | (with_reducible refine wp_serial (by kernel_rfl) (by kernel_rfl) (by repeat with_reducible (first | apply NoBad.then | apply NoBad.inBlock | apply NoBad.jump | exact NoBad.rets)) ?_) | fail)
  go_loopw [5, 8] (fun _ jj wr => ∃ j : Nat, j ≤ xs.length ∧ jj = .int .i64 j ∧ Upd0 w wr ∧ Hid ((xs.take j).find? p = none)) (fun _ jj _ => xs.length - (intOf jj).toNat)
  case atStart => exact ⟨0, Nat.zero_le _, rfl, Upd.refl _ _, Lib.hid rfl⟩
  case round =>
    obtain ⟨j, hj, rfl, hu, hno⟩ := hrel
    by_cases hlt : j < xs.length
    · obtain ⟨x, hx⟩ : ∃ x, xs[j]? = some x := ⟨xs[j], List.getElem?_eq_getElem hlt⟩
      obtain ⟨g, o, rfl, hg, e0, e1, e2, e3⟩ := hh.out.some hx
      have d0 := hu.cell (fun h => h) e0
      have d1 := hu.cell (fun h => h) e1
      have d2 := hu.cell (fun h => h) e2
      have d3 := hu.cell (fun h => h) e3
      have hgw : g < wr.heap.size := Nat.lt_of_lt_of_le hg hu.size
      have hxh := Lib.hid hx
      have hbw := Lib.hid (fun w' (k : Upd0 w w') => hcw.out x (hsh.out x (List.mem_of_getElem? hx)) w' k)
      clear hx e0 e1 e2 e3
      cases hp : p x with
      | false =>
        rw [hp] at hbw
        have hf := Lib.hid (find_more hno.out hxh.out hp)
        clear hp
        obtain ⟨nm, ty, tl, d⟩ := x
        simp only [Rc.val] at hbw
        go_wp2_with (first
          | (go_at_call 72; (with_reducible refine (hbw.out _ (by repeat first | with_reducible (first | exact Upd.refl _ _ | assumption | apply Upd.drew | apply Upd.alloc) | refine Upd0.tr ?_ (by with_reducible assumption) | refine Upd.setCell ?_ (fun h => absurd h (by first | exact Nat.lt_irrefl _ | (simp only []; omega))) _)).use ?_); rintro v w2 ⟨rfl, hu2⟩)
          | (with_reducible refine wp_serial (by kernel_rfl) (by kernel_rfl) (by repeat with_reducible (first | apply NoBad.then | apply NoBad.inBlock | apply NoBad.jump | exact NoBad.rets)) ?_) | fail)
        go_roundw
        case rel => exact ⟨j + 1, by omega, by go_num, (by repeat first | with_reducible (first | exact Upd.refl _ _ | assumption | apply Upd.drew | apply Upd.alloc) | refine Upd0.tr ?_ (by with_reducible assumption) | refine Upd.setCell ?_ (fun h => absurd h (by first | exact Nat.lt_irrefl _ | (simp only []; omega))) _), hf⟩
        case measure => simp [intOf]; omega
      | true =>
        rw [hp] at hbw
        have hf := Lib.hid (idx_some hxh.out (find_at hno.out hxh.out hp))
        clear hp
        obtain ⟨nm, ty, tl, d⟩ := x
        simp only [Rc.val] at hbw
        go_wp2_with (first
          | (go_at_call 72; (with_reducible refine (hbw.out _ (by repeat first | with_reducible (first | exact Upd.refl _ _ | assumption | apply Upd.drew | apply Upd.alloc) | refine Upd0.tr ?_ (by with_reducible assumption) | refine Upd.setCell ?_ (fun h => absurd h (by first | exact Nat.lt_irrefl _ | (simp only []; omega))) _)).use ?_); rintro v w2 ⟨rfl, hu2⟩)
          | (with_reducible refine wp_serial (by kernel_rfl) (by kernel_rfl) (by repeat with_reducible (first | apply NoBad.then | apply NoBad.inBlock | apply NoBad.jump | exact NoBad.rets)) ?_) | fail)
        all_goals go_returns
        all_goals exact ⟨_, rfl, hf.out, (by repeat first | with_reducible (first | exact Upd.refl _ _ | assumption | apply Upd.drew | apply Upd.alloc) | refine Upd0.tr ?_ (by with_reducible assumption) | refine Upd.setCell ?_ (fun h => absurd h (by first | exact Nat.lt_irrefl _ | (simp only []; omega))) _)⟩
    · have hf := Lib.hid (idx_none (find_end hno.out (by omega)))
      go_wp2_with (first | (with_reducible refine wp_serial (by kernel_rfl) (by kernel_rfl) (by repeat with_reducible (first | apply NoBad.then | apply NoBad.inBlock | apply NoBad.jump | exact NoBad.rets)) ?_) | fail)
      all_goals go_returns
      all_goals exact ⟨_, rfl, hf.out, (by repeat first | with_reducible (first | exact Upd.refl _ _ | assumption | apply Upd.drew | apply Upd.alloc) | refine Upd0.tr ?_ (by with_reducible assumption) | refine Upd.setCell ?_ (fun h => absurd h (by first | exact Nat.lt_irrefl _ | (simp only []; omega))) _)⟩
set_option maxRecDepth 100000 in
set_option maxHeartbeats 2000000 in
theorem firsta_w (ao : Option Addr) (cap : Nat) (xs : List Rc) (b : Nat) (n : Bs) (k : Int) (hn : n.length ≤ 5000) (w : World) (h : RsR w ao xs) (hs : rcsh xs) (hb : JQ w b n k) :
    Calls Try.prog 71 #[.slice ao xs.length cap, .func (.func 72) #[] #[.pointer (some ⟨b, 0, none⟩)]] w (Rets fun r w' => r = .tuple #[(fndV (ansB n k) xs).val, .bool (fndB (ansB n k) xs)] ∧ Upd0 w w') := by
  have hh := Lib.hid h
  have hl := hs.1
  have hk := Lib.hid (fun (w' : World) (hu : Upd0 w w') => idxba_w ao cap xs b n k hn w' (h.up hu) hs (hu.block (fun h => h) hb))
  obtain ⟨p, hp⟩ : ∃ p, (ansB n k) = p := ⟨_, rfl⟩
  rw [hp] at hk ⊢
  clear h hs hb hp
  cases hf : xs.find? p with
  | none =>
    have e1 : fndV p xs = ⟨[], 0, 0, []⟩ := by rw [fndV, hf]; rfl
    have e2 : fndB p xs = false := by rw [fndB, hf]; rfl
    rw [e1, e2]
    have hk2 := Lib.hid (fun (w' : World) (hu : Upd0 w w') => (hk.out w' hu).use (R := Rets fun r w'' => r = .int .i64 (-1) ∧ Upd0 w' w'') (fun v w'' hq => by
      obtain ⟨z, rfl, hz, hu2⟩ := hq
      rcases hz with ⟨rfl, _⟩ | ⟨i, x, _, _, hz⟩
      · exact ⟨rfl, hu2⟩
      · rw [hf] at hz; cases hz))
    clear hk hf e1 e2
    go_enter Try.func71, Try.ntmps71
    go_wp2_with (first
      | (go_at_call 94; (with_reducible refine (hk2.out _ (by repeat first | with_reducible (first | exact Upd.refl _ _ | assumption | apply Upd.drew | apply Upd.alloc) | refine Upd0.tr ?_ (by with_reducible assumption) | refine Upd.setCell ?_ (fun h => absurd h (by first | exact Nat.lt_irrefl _ | (simp only []; omega))) _)).use ?_); rintro v w1 ⟨rfl, hu1⟩; have b1 := Lib.hid (show rcell w1 w.heap.size ⟨[], 0, 0, []⟩ from hu1.block (fun h => h) (alloc_last _ _ _ rfl)); obtain ⟨y0, y1, y2, y3, y4⟩ := four b1.out; have hl1 := blk_lt b1.out)
      | (with_reducible refine wp_serial (by kernel_rfl) (by kernel_rfl) (by repeat with_reducible (first | apply NoBad.then | apply NoBad.inBlock | apply NoBad.jump | exact NoBad.rets)) ?_) | fail)
    exact bodyPost_ret (v := .tuple #[.agg #[.string ⟨#[]⟩, .int .i64 0, .int .i64 0, .string ⟨#[]⟩], .bool false]) (by exact res_rc Try.results71 rfl (r4_set (show w1.heap[w.heap.size]? = _ from b1.out) (.string ⟨#[]⟩) (.int .i64 0) (.int .i64 0) (.string ⟨#[]⟩))) rfl ⟨rfl, (by repeat first | with_reducible (first | exact Upd.refl _ _ | assumption | apply Upd.drew | apply Upd.alloc) | refine Upd0.tr ?_ (by with_reducible assumption) | refine Upd.setCell ?_ (fun h => absurd h (by first | exact Nat.lt_irrefl _ | (simp only []; omega))) _)⟩
  | some x =>
    have e1 : fndV p xs = x := by rw [fndV, hf]; rfl
    have e2 : fndB p xs = true := by rw [fndB, hf]; rfl
    rw [e1, e2]
    have hk2 := Lib.hid (fun (w' : World) (hu : Upd0 w w') => (hk.out w' hu).use (R := Rets fun r w'' => (∃ i : Nat, r = .int .i64 i ∧ Hid (xs[i]? = some x)) ∧ Upd0 w' w'') (fun v w'' hq => by
      obtain ⟨z, rfl, hz, hu2⟩ := hq
      rcases hz with ⟨rfl, hz⟩ | ⟨i, x', rfl, hi, hz⟩
      · rw [hf] at hz; cases hz
      · rw [hf] at hz
        injection hz with hz
        subst hz
        exact ⟨⟨i, rfl, Lib.hid hi⟩, hu2⟩))
    clear hk hf e1 e2
    obtain ⟨nm, ty, tl, d⟩ := x
    simp only [Rc.val]
    go_enter Try.func71, Try.ntmps71
    go_wp2_with (first
      | (go_at_call 94; (with_reducible refine (hk2.out _ (by repeat first | with_reducible (first | exact Upd.refl _ _ | assumption | apply Upd.drew | apply Upd.alloc) | refine Upd0.tr ?_ (by with_reducible assumption) | refine Upd.setCell ?_ (fun h => absurd h (by first | exact Nat.lt_irrefl _ | (simp only []; omega))) _)).use ?_); rintro v w1 ⟨⟨i, rfl, hi⟩, hu1⟩; have b1 := Lib.hid (show rcell w1 w.heap.size ⟨[], 0, 0, []⟩ from hu1.block (fun h => h) (alloc_last _ _ _ rfl)); obtain ⟨y0, y1, y2, y3, y4⟩ := four b1.out; have hl1 := blk_lt b1.out; have hil := (List.getElem?_eq_some_iff.1 hi.out).1; obtain ⟨g, o, rfl, hg, e0, e1, e2, e3⟩ := hh.out.some hi.out; have hu0 : Upd0 w w1 := (by repeat first | with_reducible (first | exact Upd.refl _ _ | assumption | apply Upd.drew | apply Upd.alloc) | refine Upd0.tr ?_ (by with_reducible assumption) | refine Upd.setCell ?_ (fun h => absurd h (by first | exact Nat.lt_irrefl _ | (simp only []; omega))) _); have d0 := hu0.cell (fun h => h) e0; have d1 := hu0.cell (fun h => h) e1; have d2 := hu0.cell (fun h => h) e2; have d3 := hu0.cell (fun h => h) e3; have hne : ¬ g = w.heap.size := (by omega); clear e0 e1 e2 e3)
      | (with_reducible refine wp_serial (by kernel_rfl) (by kernel_rfl) (by repeat with_reducible (first | apply NoBad.then | apply NoBad.inBlock | apply NoBad.jump | exact NoBad.rets)) ?_) | fail)
    exact bodyPost_ret (v := .tuple #[.agg #[.string ⟨nm.toArray⟩, .int .i64 ty, .int .i64 tl, .string ⟨d.toArray⟩], .bool true]) (by exact res_rc Try.results71 rfl (r4_set (show w1.heap[w.heap.size]? = _ from b1.out) (.string ⟨nm.toArray⟩) (.int .i64 ty) (.int .i64 tl) (.string ⟨d.toArray⟩))) rfl ⟨rfl, (by repeat first | with_reducible (first | exact Upd.refl _ _ | assumption | apply Upd.drew | apply Upd.alloc) | refine Upd0.tr ?_ (by with_reducible assumption) | refine Upd.setCell ?_ (fun h => absurd h (by first | exact Nat.lt_irrefl _ | (simp only []; omega))) _)⟩
set_option maxRecDepth 100000 in
set_option maxHeartbeats 2000000 in
theorem idxbl_w (ao : Option Addr) (cap : Nat) (xs : List Rc) (b : Nat) (n : Bs) (k : Int) (z : Bs) (c : Int) (av nv : Value) (hn : n.length ≤ 5000) (w : World) (h : RsR w ao xs) (hs : rcsh xs) (hb : JJ w b n k z c av nv) :
    Calls Try.prog 94 #[.slice ao xs.length cap, .func (.func 73) #[] #[.pointer (some ⟨b, 0, none⟩)]] w (Rets fun r w' => ∃ z : Int, r = .int .i64 z ∧ IdxR (aliB n) xs z ∧ Upd0 w w') := by
  have hh := Lib.hid h
  have hl := hs.1
  have hsh := Lib.hid hs.2
  have hcw := Lib.hid (fun (x : Rc) (hx : x.nm.length ≤ 5000 ∧ x.d.length ≤ 5000) (w' : World) (hu : Upd0 w w') => ali_w x hx.1 b n hn k z c av nv w' (hu.block (fun h => h) hb))
  obtain ⟨p, hp⟩ : ∃ p, (aliB n) = p := ⟨_, rfl⟩
  rw [hp] at hcw ⊢
  clear h hs hb hp
  go_enter Try.func94, Try.ntmps94
  go_wp2_with (first | (with_reducible refine wp_serial (by kernel_rfl) (by kernel_rfl) (by repeat with_reducible (first | apply NoBad.then | apply NoBad.inBlock | apply NoBad.jump | exact NoBad.rets)) ?_) | fail)
  go_loopw [5, 8] (fun _ jj wr => ∃ j : Nat, j ≤ xs.length ∧ jj = .int .i64 j ∧ Upd0 w wr ∧ Hid ((xs.take j).find? p = none)) (fun _ jj _ => xs.length - (intOf jj).toNat)
  case atStart => exact ⟨0, Nat.zero_le _, rfl, Upd.refl _ _, Lib.hid rfl⟩
  case round =>
    obtain ⟨j, hj, rfl, hu, hno⟩ := hrel
    by_cases hlt : j < xs.length
    · obtain ⟨x, hx⟩ : ∃ x, xs[j]? = some x := ⟨xs[j], List.getElem?_eq_getElem hlt⟩
      obtain ⟨g, o, rfl, hg, e0, e1, e2, e3⟩ := hh.out.some hx
      have d0 := hu.cell (fun h => h) e0
      have d1 := hu.cell (fun h => h) e1
      have d2 := hu.cell (fun h => h) e2
      have d3 := hu.cell (fun h => h) e3
      have hgw : g < wr.heap.size := Nat.lt_of_lt_of_le hg hu.size
      have hxh := Lib.hid hx
      have hbw := Lib.hid (fun w' (k : Upd0 w w') => hcw.out x (hsh.out x (List.mem_of_getElem? hx)) w' k)
      clear hx e0 e1 e2 e3
      cases hp : p x with
      | false =>
        rw [hp] at hbw
        have hf := Lib.hid (find_more hno.out hxh.out hp)
        clear hp
        obtain ⟨nm, ty, tl, d⟩ := x
        simp only [Rc.val] at hbw
        go_wp2_with (first
          | (go_at_call 73; (with_reducible refine (hbw.out _ (by repeat first | with_reducible (first | exact Upd.refl _ _ | assumption | apply Upd.drew | apply Upd.alloc) | refine Upd0.tr ?_ (by with_reducible assumption) | refine Upd.setCell ?_ (fun h => absurd h (by first | exact Nat.lt_irrefl _ | (simp only []; omega))) _)).use ?_); rintro v w2 ⟨rfl, hu2⟩)
          | (with_reducible refine wp_serial (by kernel_rfl) (by kernel_rfl) (by repeat with_reducible (first | apply NoBad.then | apply NoBad.inBlock | apply NoBad.jump | exact NoBad.rets)) ?_) | fail)
        go_roundw
        case rel => exact ⟨j + 1, by omega, by go_num, (by repeat first | with_reducible (first | exact Upd.refl _ _ | assumption | apply Upd.drew | apply Upd.alloc) | refine Upd0.tr ?_ (by with_reducible assumption) | refine Upd.setCell ?_ (fun h => absurd h (by first | exact Nat.lt_irrefl _ | (simp only []; omega))) _), hf⟩
        case measure => simp [intOf]; omega
      | true =>
        rw [hp] at hbw
        have hf := Lib.hid (idx_some hxh.out (find_at hno.out hxh.out hp))
        clear hp
        obtain ⟨nm, ty, tl, d⟩ := x
        simp only [Rc.val] at hbw
        go_wp2_with (first
          | (go_at_call 73; (with_reducible refine (hbw.out _ (by repeat first | with_reducible (first | exact Upd.refl _ _ | assumption | apply Upd.drew | apply Upd.alloc) | refine Upd0.tr ?_ (by with_reducible assumption) | refine Upd.setCell ?_ (fun h => absurd h (by first | exact Nat.lt_irrefl _ | (simp only []; omega))) _)).use ?_); rintro v w2 ⟨rfl, hu2⟩)
          | (with_reducible refine wp_serial (by kernel_rfl) (by kernel_rfl) (by repeat with_reducible (first | apply NoBad.then | apply NoBad.inBlock | apply NoBad.jump | exact NoBad.rets)) ?_) | fail)
        all_goals go_returns
        all_goals exact ⟨_, rfl, hf.out, (by repeat first | with_reducible (first | exact Upd.refl _ _ | assumption | apply Upd.drew | apply Upd.alloc) | refine Upd0.tr ?_ (by with_reducible assumption) | refine Upd.setCell ?_ (fun h => absurd h (by first | exact Nat.lt_irrefl _ | (simp only []; omega))) _)⟩
    · have hf := Lib.hid (idx_none (find_end hno.out (by omega)))
      go_wp2_with (first | (with_reducible refine wp_serial (by kernel_rfl) (by kernel_rfl) (by repeat with_reducible (first | apply NoBad.then | apply NoBad.inBlock | apply NoBad.jump | exact NoBad.rets)) ?_) | fail)
      all_goals go_returns
      all_goals exact ⟨_, rfl, hf.out, (by repeat first | with_reducible (first | exact Upd.refl _ _ | assumption | apply Upd.drew | apply Upd.alloc) | refine Upd0.tr ?_ (by with_reducible assumption) | refine Upd.setCell ?_ (fun h => absurd h (by first | exact Nat.lt_irrefl _ | (simp only []; omega))) _)⟩
set_option maxRecDepth 100000 in
set_option maxHeartbeats 2000000 in
theorem firstl_w (ao : Option Addr) (cap : Nat) (xs : List Rc) (b : Nat) (n : Bs) (k : Int) (z : Bs) (c : Int) (av nv : Value) (hn : n.length ≤ 5000) (w : World) (h : RsR w ao xs) (hs : rcsh xs) (hb : JJ w b n k z c av nv) :
    Calls Try.prog 71 #[.slice ao xs.length cap, .func (.func 73) #[] #[.pointer (some ⟨b, 0, none⟩)]] w (Rets fun r w' => r = .tuple #[(fndV (aliB n) xs).val, .bool (fndB (aliB n) xs)] ∧ Upd0 w w') := by
  have hh := Lib.hid h
  have hl := hs.1
  have hk := Lib.hid (fun (w' : World) (hu : Upd0 w w') => idxbl_w ao cap xs b n k z c av nv hn w' (h.up hu) hs (hu.block (fun h => h) hb))
  obtain ⟨p, hp⟩ : ∃ p, (aliB n) = p := ⟨_, rfl⟩
  rw [hp] at hk ⊢
  clear h hs hb hp
  cases hf : xs.find? p with
  | none =>
    have e1 : fndV p xs = ⟨[], 0, 0, []⟩ := by rw [fndV, hf]; rfl
    have e2 : fndB p xs = false := by rw [fndB, hf]; rfl
    rw [e1, e2]
    have hk2 := Lib.hid (fun (w' : World) (hu : Upd0 w w') => (hk.out w' hu).use (R := Rets fun r w'' => r = .int .i64 (-1) ∧ Upd0 w' w'') (fun v w'' hq => by
      obtain ⟨z, rfl, hz, hu2⟩ := hq
      rcases hz with ⟨rfl, _⟩ | ⟨i, x, _, _, hz⟩
      · exact ⟨rfl, hu2⟩
      · rw [hf] at hz; cases hz))
    clear hk hf e1 e2
    go_enter Try.func71, Try.ntmps71
    go_wp2_with (first
      | (go_at_call 94; (with_reducible refine (hk2.out _ (by repeat first | with_reducible (first | exact Upd.refl _ _ | assumption | apply Upd.drew | apply Upd.alloc) | refine Upd0.tr ?_ (by with_reducible assumption) | refine Upd.setCell ?_ (fun h => absurd h (by first | exact Nat.lt_irrefl _ | (simp only []; omega))) _)).use ?_); rintro v w1 ⟨rfl, hu1⟩; have b1 := Lib.hid (show rcell w1 w.heap.size ⟨[], 0, 0, []⟩ from hu1.block (fun h => h) (alloc_last _ _ _ rfl)); obtain ⟨y0, y1, y2, y3, y4⟩ := four b1.out; have hl1 := blk_lt b1.out)
      | (with_reducible refine wp_serial (by kernel_rfl) (by kernel_rfl) (by repeat with_reducible (first | apply NoBad.then | apply NoBad.inBlock | apply NoBad.jump | exact NoBad.rets)) ?_) | fail)
    exact bodyPost_ret (v := .tuple #[.agg #[.string ⟨#[]⟩, .int .i64 0, .int .i64 0, .string ⟨#[]⟩], .bool false]) (by exact res_rc Try.results71 rfl (r4_set (show w1.heap[w.heap.size]? = _ from b1.out) (.string ⟨#[]⟩) (.int .i64 0) (.int .i64 0) (.string ⟨#[]⟩))) rfl ⟨rfl, (by repeat first | with_reducible (first | exact Upd.refl _ _ | assumption | apply Upd.drew | apply Upd.alloc) | refine Upd0.tr ?_ (by with_reducible assumption) | refine Upd.setCell ?_ (fun h => absurd h (by first | exact Nat.lt_irrefl _ | (simp only []; omega))) _)⟩
  | some x =>
    have e1 : fndV p xs = x := by rw [fndV, hf]; rfl
    have e2 : fndB p xs = true := by rw [fndB, hf]; rfl
    rw [e1, e2]
    have hk2 := Lib.hid (fun (w' : World) (hu : Upd0 w w') => (hk.out w' hu).use (R := Rets fun r w'' => (∃ i : Nat, r = .int .i64 i ∧ Hid (xs[i]? = some x)) ∧ Upd0 w' w'') (fun v w'' hq => by
      obtain ⟨z, rfl, hz, hu2⟩ := hq
      rcases hz with ⟨rfl, hz⟩ | ⟨i, x', rfl, hi, hz⟩
      · rw [hf] at hz; cases hz
      · rw [hf] at hz
        injection hz with hz
        subst hz
        exact ⟨⟨i, rfl, Lib.hid hi⟩, hu2⟩))
    clear hk hf e1 e2
    obtain ⟨nm, ty, tl, d⟩ := x
    simp only [Rc.val]
    go_enter Try.func71, Try.ntmps71
    go_wp2_with (first
      | (go_at_call 94; (with_reducible refine (hk2.out _ (by repeat first | with_reducible (first | exact Upd.refl _ _ | assumption | apply Upd.drew | apply Upd.alloc) | refine Upd0.tr ?_ (by with_reducible assumption) | refine Upd.setCell ?_ (fun h => absurd h (by first | exact Nat.lt_irrefl _ | (simp only []; omega))) _)).use ?_); rintro v w1 ⟨⟨i, rfl, hi⟩, hu1⟩; have b1 := Lib.hid (show rcell w1 w.heap.size ⟨[], 0, 0, []⟩ from hu1.block (fun h => h) (alloc_last _ _ _ rfl)); obtain ⟨y0, y1, y2, y3, y4⟩ := four b1.out; have hl1 := blk_lt b1.out; have hil := (List.getElem?_eq_some_iff.1 hi.out).1; obtain ⟨g, o, rfl, hg, e0, e1, e2, e3⟩ := hh.out.some hi.out; have hu0 : Upd0 w w1 := (by repeat first | with_reducible (first | exact Upd.refl _ _ | assumption | apply Upd.drew | apply Upd.alloc) | refine Upd0.tr ?_ (by with_reducible assumption) | refine Upd.setCell ?_ (fun h => absurd h (by first | exact Nat.lt_irrefl _ | (simp only []; omega))) _); have d0 := hu0.cell (fun h => h) e0; have d1 := hu0.cell (fun h => h) e1; have d2 := hu0.cell (fun h => h) e2; have d3 := hu0.cell (fun h => h) e3; have hne : ¬ g = w.heap.size := (by omega); clear e0 e1 e2 e3)
      | (with_reducible refine wp_serial (by kernel_rfl) (by kernel_rfl) (by repeat with_reducible (first | apply NoBad.then | apply NoBad.inBlock | apply NoBad.jump | exact NoBad.rets)) ?_) | fail)
    exact bodyPost_ret (v := .tuple #[.agg #[.string ⟨nm.toArray⟩, .int .i64 ty, .int .i64 tl, .string ⟨d.toArray⟩], .bool true]) (by exact res_rc Try.results71 rfl (r4_set (show w1.heap[w.heap.size]? = _ from b1.out) (.string ⟨nm.toArray⟩) (.int .i64 ty) (.int .i64 tl) (.string ⟨d.toArray⟩))) rfl ⟨rfl, (by repeat first | with_reducible (first | exact Upd.refl _ _ | assumption | apply Upd.drew | apply Upd.alloc) | refine Upd0.tr ?_ (by with_reducible assumption) | refine Upd.setCell ?_ (fun h => absurd h (by first | exact Nat.lt_irrefl _ | (simp only []; omega))) _)⟩
set_option maxRecDepth 100000 in
set_option maxHeartbeats 2000000 in
theorem idxbd_w (ao : Option Addr) (cap : Nat) (xs : List Rc) (b : Nat) (n : Bs) (k : Int) (z : Bs) (c : Int) (av nv : Value) (hn : n.length ≤ 5000) (w : World) (h : RsR w ao xs) (hs : rcsh xs) (hb : JJ w b n k z c av nv) :
    Calls Try.prog 94 #[.slice ao xs.length cap, .func (.func 75) #[] #[.pointer (some ⟨b, 0, none⟩)]] w (Rets fun r w' => ∃ z : Int, r = .int .i64 z ∧ IdxR (denB n) xs z ∧ Upd0 w w') := by
  have hh := Lib.hid h
  have hl := hs.1
  have hsh := Lib.hid hs.2
  have hcw := Lib.hid (fun (x : Rc) (hx : x.nm.length ≤ 5000 ∧ x.d.length ≤ 5000) (w' : World) (hu : Upd0 w w') => den_w x hx.1 b n hn k z c av nv w' (hu.block (fun h => h) hb))
  obtain ⟨p, hp⟩ : ∃ p, (denB n) = p := ⟨_, rfl⟩
  rw [hp] at hcw ⊢
  clear h hs hb hp
  go_enter Try.func94, Try.ntmps94
  go_wp2_with (first | (with_reducible refine wp_serial (by kernel_rfl) (by kernel_rfl) (by repeat with_reducible (first | apply NoBad.then | apply NoBad.inBlock | apply NoBad.jump | exact NoBad.rets)) ?_) | fail)
  go_loopw [5, 8] (fun _ jj wr => ∃ j : Nat, j ≤ xs.length ∧ jj = .int .i64 j ∧ Upd0 w wr ∧ Hid ((xs.take j).find? p = none)) (fun _ jj _ => xs.length - (intOf jj).toNat)
  case atStart => exact ⟨0, Nat.zero_le _, rfl, Upd.refl _ _, Lib.hid rfl⟩
  case round =>
    obtain ⟨j, hj, rfl, hu, hno⟩ := hrel
    by_cases hlt : j < xs.length
    · obtain ⟨x, hx⟩ : ∃ x, xs[j]? = some x := ⟨xs[j], List.getElem?_eq_getElem hlt⟩
      obtain ⟨g, o, rfl, hg, e0, e1, e2, e3⟩ := hh.out.some hx
      have d0 := hu.cell (fun h => h) e0
      have d1 := hu.cell (fun h => h) e1
      have d2 := hu.cell (fun h => h) e2
      have d3 := hu.cell (fun h => h) e3
      have hgw : g < wr.heap.size := Nat.lt_of_lt_of_le hg hu.size
      have hxh := Lib.hid hx
      have hbw := Lib.hid (fun w' (k : Upd0 w w') => hcw.out x (hsh.out x (List.mem_of_getElem? hx)) w' k)
      clear hx e0 e1 e2 e3
      cases hp : p x with
      | false =>
        rw [hp] at hbw
        have hf := Lib.hid (find_more hno.out hxh.out hp)
        clear hp
        obtain ⟨nm, ty, tl, d⟩ := x
        simp only [Rc.val] at hbw
        go_wp2_with (first
          | (go_at_call 75; (with_reducible refine (hbw.out _ (by repeat first | with_reducible (first | exact Upd.refl _ _ | assumption | apply Upd.drew | apply Upd.alloc) | refine Upd0.tr ?_ (by with_reducible assumption) | refine Upd.setCell ?_ (fun h => absurd h (by first | exact Nat.lt_irrefl _ | (simp only []; omega))) _)).use ?_); rintro v w2 ⟨rfl, hu2⟩)
          | (with_reducible refine wp_serial (by kernel_rfl) (by kernel_rfl) (by repeat with_reducible (first | apply NoBad.then | apply NoBad.inBlock | apply NoBad.jump | exact NoBad.rets)) ?_) | fail)
        go_roundw
        case rel => exact ⟨j + 1, by omega, by go_num, (by repeat first | with_reducible (first | exact Upd.refl _ _ | assumption | apply Upd.drew | apply Upd.alloc) | refine Upd0.tr ?_ (by with_reducible assumption) | refine Upd.setCell ?_ (fun h => absurd h (by first | exact Nat.lt_irrefl _ | (simp only []; omega))) _), hf⟩
        case measure => simp [intOf]; omega
      | true =>
        rw [hp] at hbw
        have hf := Lib.hid (idx_some hxh.out (find_at hno.out hxh.out hp))
        clear hp
        obtain ⟨nm, ty, tl, d⟩ := x
        simp only [Rc.val] at hbw
        go_wp2_with (first
          | (go_at_call 75; (with_reducible refine (hbw.out _ (by repeat first | with_reducible (first | exact Upd.refl _ _ | assumption | apply Upd.drew | apply Upd.alloc) | refine Upd0.tr ?_ (by with_reducible assumption) | refine Upd.setCell ?_ (fun h => absurd h (by first | exact Nat.lt_irrefl _ | (simp only []; omega))) _)).use ?_); rintro v w2 ⟨rfl, hu2⟩)
          | (with_reducible refine wp_serial (by kernel_rfl) (by kernel_rfl) (by repeat with_reducible (first | apply NoBad.then | apply NoBad.inBlock | apply NoBad.jump | exact NoBad.rets)) ?_) | fail)
        all_goals go_returns
        all_goals exact ⟨_, rfl, hf.out, (by repeat first | with_reducible (first | exact Upd.refl _ _ | assumption | apply Upd.drew | apply Upd.alloc) | refine Upd0.tr ?_ (by with_reducible assumption) | refine Upd.setCell ?_ (fun h => absurd h (by first | exact Nat.lt_irrefl _ | (simp only []; omega))) _)⟩
    · have hf := Lib.hid (idx_none (find_end hno.out (by omega)))
      go_wp2_with (first | (with_reducible refine wp_serial (by kernel_rfl) (by kernel_rfl) (by repeat with_reducible (first | apply NoBad.then | apply NoBad.inBlock | apply NoBad.jump | exact NoBad.rets)) ?_) | fail)
      all_goals go_returns
      all_goals exact ⟨_, rfl, hf.out, (by repeat first | with_reducible (first | exact Upd.refl _ _ | assumption | apply Upd.drew | apply Upd.alloc) | refine Upd0.tr ?_ (by with_reducible assumption) | refine Upd.setCell ?_ (fun h => absurd h (by first | exact Nat.lt_irrefl _ | (simp only []; omega))) _)⟩
set_option maxRecDepth 100000 in
set_option maxHeartbeats 2000000 in
theorem firstd_w (ao : Option Addr) (cap : Nat) (xs : List Rc) (b : Nat) (n : Bs) (k : Int) (z : Bs) (c : Int) (av nv : Value) (hn : n.length ≤ 5000) (w : World) (h : RsR w ao xs) (hs : rcsh xs) (hb : JJ w b n k z c av nv) :
    Calls Try.prog 71 #[.slice ao xs.length cap, .func (.func 75) #[] #[.pointer (some ⟨b, 0, none⟩)]] w (Rets fun r w' => r = .tuple #[(fndV (denB n) xs).val, .bool (fndB (denB n) xs)] ∧ Upd0 w w') := by
  have hh := Lib.hid h
  have hl := hs.1
  have hk := Lib.hid (fun (w' : World) (hu : Upd0 w w') => idxbd_w ao cap xs b n k z c av nv hn w' (h.up hu) hs (hu.block (fun h => h) hb))
  obtain ⟨p, hp⟩ : ∃ p, (denB n) = p := ⟨_, rfl⟩
  rw [hp] at hk ⊢
  clear h hs hb hp
  cases hf : xs.find? p with
  | none =>
    have e1 : fndV p xs = ⟨[], 0, 0, []⟩ := by rw [fndV, hf]; rfl
    have e2 : fndB p xs = false := by rw [fndB, hf]; rfl
    rw [e1, e2]
    have hk2 := Lib.hid (fun (w' : World) (hu : Upd0 w w') => (hk.out w' hu).use (R := Rets fun r w'' => r = .int .i64 (-1) ∧ Upd0 w' w'') (fun v w'' hq => by
      obtain ⟨z, rfl, hz, hu2⟩ := hq
      rcases hz with ⟨rfl, _⟩ | ⟨i, x, _, _, hz⟩
      · exact ⟨rfl, hu2⟩
      · rw [hf] at hz; cases hz))
    clear hk hf e1 e2
    go_enter Try.func71, Try.ntmps71
    go_wp2_with (first
      | (go_at_call 94; (with_reducible refine (hk2.out _ (by repeat first | with_reducible (first | exact Upd.refl _ _ | assumption | apply Upd.drew | apply Upd.alloc) | refine Upd0.tr ?_ (by with_reducible assumption) | refine Upd.setCell ?_ (fun h => absurd h (by first | exact Nat.lt_irrefl _ | (simp only []; omega))) _)).use ?_); rintro v w1 ⟨rfl, hu1⟩; have b1 := Lib.hid (show rcell w1 w.heap.size ⟨[], 0, 0, []⟩ from hu1.block (fun h => h) (alloc_last _ _ _ rfl)); obtain ⟨y0, y1, y2, y3, y4⟩ := four b1.out; have hl1 := blk_lt b1.out)
      | (with_reducible refine wp_serial (by kernel_rfl) (by kernel_rfl) (by repeat with_reducible (first | apply NoBad.then | apply NoBad.inBlock | apply NoBad.jump | exact NoBad.rets)) ?_) | fail)
    exact bodyPost_ret (v := .tuple #[.agg #[.string ⟨#[]⟩, .int .i64 0, .int .i64 0, .string ⟨#[]⟩], .bool false]) (by exact res_rc Try.results71 rfl (r4_set (show w1.heap[w.heap.size]? = _ from b1.out) (.string ⟨#[]⟩) (.int .i64 0) (.int .i64 0) (.string ⟨#[]⟩))) rfl ⟨rfl, (by repeat first | with_reducible (first | exact Upd.refl _ _ | assumption | apply Upd.drew | apply Upd.alloc) | refine Upd0.tr ?_ (by with_reducible assumption) | refine Upd.setCell ?_ (fun h => absurd h (by first | exact Nat.lt_irrefl _ | (simp only []; omega))) _)⟩
  | some x =>
    have e1 : fndV p xs = x := by rw [fndV, hf]; rfl
    have e2 : fndB p xs = true := by rw [fndB, hf]; rfl
    rw [e1, e2]
    have hk2 := Lib.hid (fun (w' : World) (hu : Upd0 w w') => (hk.out w' hu).use (R := Rets fun r w'' => (∃ i : Nat, r = .int .i64 i ∧ Hid (xs[i]? = some x)) ∧ Upd0 w' w'') (fun v w'' hq => by
      obtain ⟨z, rfl, hz, hu2⟩ := hq
      rcases hz with ⟨rfl, hz⟩ | ⟨i, x', rfl, hi, hz⟩
      · rw [hf] at hz; cases hz
      · rw [hf] at hz
        injection hz with hz
        subst hz
        exact ⟨⟨i, rfl, Lib.hid hi⟩, hu2⟩))
    clear hk hf e1 e2
    obtain ⟨nm, ty, tl, d⟩ := x
    simp only [Rc.val]
    go_enter Try.func71, Try.ntmps71
    go_wp2_with (first
      | (go_at_call 94; (with_reducible refine (hk2.out _ (by repeat first | with_reducible (first | exact Upd.refl _ _ | assumption | apply Upd.drew | apply Upd.alloc) | refine Upd0.tr ?_ (by with_reducible assumption) | refine Upd.setCell ?_ (fun h => absurd h (by first | exact Nat.lt_irrefl _ | (simp only []; omega))) _)).use ?_); rintro v w1 ⟨⟨i, rfl, hi⟩, hu1⟩; have b1 := Lib.hid (show rcell w1 w.heap.size ⟨[], 0, 0, []⟩ from hu1.block (fun h => h) (alloc_last _ _ _ rfl)); obtain ⟨y0, y1, y2, y3, y4⟩ := four b1.out; have hl1 := blk_lt b1.out; have hil := (List.getElem?_eq_some_iff.1 hi.out).1; obtain ⟨g, o, rfl, hg, e0, e1, e2, e3⟩ := hh.out.some hi.out; have hu0 : Upd0 w w1 := (by repeat first | with_reducible (first | exact Upd.refl _ _ | assumption | apply Upd.drew | apply Upd.alloc) | refine Upd0.tr ?_ (by with_reducible assumption) | refine Upd.setCell ?_ (fun h => absurd h (by first | exact Nat.lt_irrefl _ | (simp only []; omega))) _); have d0 := hu0.cell (fun h => h) e0; have d1 := hu0.cell (fun h => h) e1; have d2 := hu0.cell (fun h => h) e2; have d3 := hu0.cell (fun h => h) e3; have hne : ¬ g = w.heap.size := (by omega); clear e0 e1 e2 e3)
      | (with_reducible refine wp_serial (by kernel_rfl) (by kernel_rfl) (by repeat with_reducible (first | apply NoBad.then | apply NoBad.inBlock | apply NoBad.jump | exact NoBad.rets)) ?_) | fail)
    exact bodyPost_ret (v := .tuple #[.agg #[.string ⟨nm.toArray⟩, .int .i64 ty, .int .i64 tl, .string ⟨d.toArray⟩], .bool true]) (by exact res_rc Try.results71 rfl (r4_set (show w1.heap[w.heap.size]? = _ from b1.out) (.string ⟨nm.toArray⟩) (.int .i64 ty) (.int .i64 tl) (.string ⟨d.toArray⟩))) rfl ⟨rfl, (by repeat first | with_reducible (first | exact Upd.refl _ _ | assumption | apply Upd.drew | apply Upd.alloc) | refine Upd0.tr ?_ (by with_reducible assumption) | refine Upd.setCell ?_ (fun h => absurd h (by first | exact Nat.lt_irrefl _ | (simp only []; omega))) _)⟩
end Go.Proofs.Ytijmbpokglohbaa

namespace Go.Proofs.Ytijmbpokglohbaa
open Go.RowKit
set_option linter.unusedSimpArgs false
set_option linter.unusedVariables false
theorem wit_more {xs : List Rc} {z : Bs} {j : Nat} {x : Rc} (hx : xs[j]? = some x) (hp : witB z x = true) : witL (xs.take (j + 1)) z = witL (xs.take j) z ++ [x] := by
  rw [List.take_add_one, hx, wit_app]; simp [witL, hp]
theorem wit_skip {xs : List Rc} {z : Bs} {j : Nat} {x : Rc} (hx : xs[j]? = some x) (hp : witB z x = false) : witL (xs.take (j + 1)) z = witL (xs.take j) z := by
  rw [List.take_add_one, hx, wit_app]; simp [witL, hp]
theorem rc_one (xs : List Rc) : ∀ u ∈ xs.flatMap Rc.cells, u.oneCell' = true := by
  intro u hu
  simp only [List.mem_flatMap] at hu
  obtain ⟨x, _, hx⟩ := hu
  obtain ⟨nm, ty, tl, d⟩ := x
  simp only [Rc.cells, List.mem_cons, List.not_mem_nil, or_false] at hx
  rcases hx with rfl | rfl | rfl | rfl <;> rfl
theorem rok_iff {r : Rc} : r.ok = true ↔ recC r.nm r.ty r.tl r.d = 0 := by simp [Rc.ok]
set_option maxRecDepth 100000 in
set_option maxHeartbeats 4000000 in
theorem within_bw (ao : Option Addr) (cap : Nat) (xs : List Rc) (z : Bs) (w : World) (h : RsR w ao xs) (hl : xs.length ≤ 5000) (hs : ∀ x ∈ xs, x.nm.length ≤ 5000 ∧ x.d.length ≤ 5000) (hz : z.length ≤ 5000) :
    Calls Try.prog 22 #[.slice ao xs.length cap, .string ⟨z.toArray⟩] w (Rets fun r w' => ∃ ao' cap', r = .slice ao' (witL xs z).length cap' ∧ RsR w' ao' (witL xs z) ∧ Upd0 w w' ∧ ∀ g o, ao' = some ⟨g, o, none⟩ → w.heap.size ≤ g) := by
  obtain ⟨i0, hi, hz0, hz1, hz2⟩ := info_parts info_r
  have hh := Lib.hid h
  have hsh := Lib.hid hs
  clear h hs
  go_enter Try.func22, Try.ntmps22
  go_wp2_with (first | (with_reducible refine wp_serial (by kernel_rfl) (by kernel_rfl) (by repeat with_reducible (first | apply NoBad.then | apply NoBad.inBlock | apply NoBad.jump | exact NoBad.rets)) ?_) | fail)
  go_loopw [5, 7, 10] (fun vv _ jj wr => ∃ (j : Nat) (ao' : Option Addr) (cap' : Nat) (l : List Rc), j ≤ xs.length ∧ jj = .int .i64 j ∧ vv = .slice ao' l.length cap' ∧ l.length ≤ j ∧ Hid (l = witL (xs.take j) z) ∧ Hid (wr.ownsRow 0 82 4 (.slice ao' l.length cap') l.length (l.flatMap Rc.cells)) ∧ Hid (∀ k, (Value.slice ao' l.length cap').ownBlock = some k → w.heap.size ≤ k) ∧ Upd0 w wr) (fun vv _ jj _ => xs.length - (intOf jj).toNat)
  case atStart => exact ⟨0, none, 0, [], Nat.zero_le _, rfl, rfl, Nat.le_refl _, Lib.hid rfl, Lib.hid ⟨rfl, .inl ⟨rfl, rfl⟩⟩, Lib.hid (fun k hk => by simp [Value.ownBlock] at hk), Upd.refl _ _⟩
  case round =>
    obtain ⟨j, ao', cap', l, hj, rfl, rfl, hlj, hll, hown, hnew, hu⟩ := hrel
    by_cases hlt : j < xs.length
    · obtain ⟨x, hx⟩ : ∃ x, xs[j]? = some x := ⟨xs[j], List.getElem?_eq_getElem hlt⟩
      obtain ⟨g, o, rfl, hg, e0, e1, e2, e3⟩ := hh.out.some hx
      have d0 := hu.cell (fun h => h) e0
      have d1 := hu.cell (fun h => h) e1
      have d2 := hu.cell (fun h => h) e2
      have d3 := hu.cell (fun h => h) e3
      have hgw : g < wr.heap.size := Nat.lt_of_lt_of_le hg hu.size
      have hxl := hsh.out x (List.mem_of_getElem? hx)
      have hxh := Lib.hid hx
      have hC := Lib.hid (recCheck_w x.nm x.ty x.tl x.d (by omega) (by omega))
      have hU := Lib.hid (under_w x.nm z (by omega) (by omega))
      clear hx e0 e1 e2 e3
      cases hp : witB z x with
      | false =>
        have hf := Lib.hid (hll.out.trans (wit_skip hxh.out hp).symm)
        simp only [witB] at hp
        cases hok : x.ok with
        | false =>
          have hne : ¬ recC x.nm x.ty x.tl x.d = 0 := fun e => by rw [rok_iff.2 e] at hok; cases hok
          obtain ⟨c, hc⟩ : ∃ c, recC x.nm x.ty x.tl x.d = c := ⟨_, rfl⟩
          rw [hc] at hne hC
          clear hok hp hc
          obtain ⟨nm, ty, tl, d⟩ := x
          simp only [] at hC hU
          go_wp2_with (first
            | (go_at_call 53; (with_reducible refine (hC.out _).use ?_); rintro v w2 ⟨rfl, hu2⟩)
            | (with_reducible refine wp_serial (by kernel_rfl) (by kernel_rfl) (by repeat with_reducible (first | apply NoBad.then | apply NoBad.inBlock | apply NoBad.jump | exact NoBad.rets)) ?_) | fail)
          go_roundw
          case rel => exact ⟨j + 1, ao', cap', l, by omega, by go_num, rfl, by omega, hf, Lib.hid (ownsRow_ext hown.out (Upd.ext (w := wr) (by repeat first | with_reducible (first | exact Upd.refl _ _ | assumption | apply Upd.drew | apply Upd.alloc) | refine Upd0.tr ?_ (by with_reducible assumption) | refine Upd.setCell ?_ (fun h => absurd h (by first | exact Nat.lt_irrefl _ | (simp only []; omega))) _))), hnew, (by repeat first | with_reducible (first | exact Upd.refl _ _ | assumption | apply Upd.drew | apply Upd.alloc) | refine Upd0.tr ?_ (by with_reducible assumption) | refine Upd.setCell ?_ (fun h => absurd h (by first | exact Nat.lt_irrefl _ | (simp only []; omega))) _)⟩
          case measure => simp [intOf]; omega
        | true =>
          rw [hok, Bool.true_and] at hp
          rw [rok_iff.1 hok] at hC
          rw [hp] at hU
          clear hok hp
          obtain ⟨nm, ty, tl, d⟩ := x
          simp only [] at hC hU
          go_wp2_with (first
            | (go_at_call 53; (with_reducible refine (hC.out _).use ?_); rintro v w2 ⟨rfl, hu2⟩; have b2 := Lib.hid (show w2.heap[wr.heap.size]? = some (.cells #[.string ⟨nm.toArray⟩, .int .i64 ty, .int .i64 tl, .string ⟨d.toArray⟩] 82 (0, 0)) from hu2.block (fun h => h) (alloc_last _ _ _ rfl)); obtain ⟨y0, y1, y2, y3, y4⟩ := four b2.out; have hl2 := blk_lt b2.out)
            | (go_at_call 47; (with_reducible refine (hU.out _).use ?_); rintro v w3 ⟨rfl, hu3⟩)
            | (with_reducible refine wp_serial (by kernel_rfl) (by kernel_rfl) (by repeat with_reducible (first | apply NoBad.then | apply NoBad.inBlock | apply NoBad.jump | exact NoBad.rets)) ?_) | fail)
          go_roundw
          case rel => exact ⟨j + 1, ao', cap', l, by omega, by go_num, rfl, by omega, hf, Lib.hid (ownsRow_ext hown.out (Upd.ext (w := wr) (by repeat first | with_reducible (first | exact Upd.refl _ _ | assumption | apply Upd.drew | apply Upd.alloc) | refine Upd0.tr ?_ (by with_reducible assumption) | refine Upd.setCell ?_ (fun h => absurd h (by first | exact Nat.lt_irrefl _ | (simp only []; omega))) _))), hnew, (by repeat first | with_reducible (first | exact Upd.refl _ _ | assumption | apply Upd.drew | apply Upd.alloc) | refine Upd0.tr ?_ (by with_reducible assumption) | refine Upd.setCell ?_ (fun h => absurd h (by first | exact Nat.lt_irrefl _ | (simp only []; omega))) _)⟩
          case measure => simp [intOf]; omega
      | true =>
        have hf := Lib.hid (show l ++ [x] = witL (xs.take (j + 1)) z by rw [wit_more hxh.out hp, hll.out])
        simp only [witB, Bool.and_eq_true] at hp
        rw [rok_iff.1 hp.1] at hC
        rw [hp.2] at hU
        clear hp
        obtain ⟨nm, ty, tl, d⟩ := x
        simp only [] at hC hU
        go_wp2_with (first
          | (go_at_call 53; (with_reducible refine (hC.out _).use ?_); rintro v w2 ⟨rfl, hu2⟩; have b2 := Lib.hid (show w2.heap[wr.heap.size]? = some (.cells #[.string ⟨nm.toArray⟩, .int .i64 ty, .int .i64 tl, .string ⟨d.toArray⟩] 82 (0, 0)) from hu2.block (fun h => h) (alloc_last _ _ _ rfl)); obtain ⟨y0, y1, y2, y3, y4⟩ := four b2.out; have hl2 := blk_lt b2.out)
          | (go_at_call 47; (with_reducible refine (hU.out _).use ?_); rintro v w3 ⟨rfl, hu3⟩; have b3 := Lib.hid (show w3.heap[wr.heap.size]? = some (.cells #[.string ⟨nm.toArray⟩, .int .i64 ty, .int .i64 tl, .string ⟨d.toArray⟩] 82 (0, 0)) from hu3.block (fun h => h) b2.out); obtain ⟨z0, z1, z2, z3, z4⟩ := four b3.out; have hl3 := blk_lt b3.out)
          | (at_builtin; refine wpList_app (w := wr) (Upd.ext (by repeat first | with_reducible (first | exact Upd.refl _ _ | assumption | apply Upd.drew | apply Upd.alloc) | refine Upd0.tr ?_ (by with_reducible assumption) | refine Upd.setCell ?_ (fun h => absurd h (by first | exact Nat.lt_irrefl _ | (simp only []; omega))) _)) rfl (.tmp 23) (.tmp 25) 23 rfl 82 i0 _ 4 48 Try.underlying23 hi hz0 hz1 hz2 rfl (by decide) _ _ _ hown.out rfl _ _ _ [.string ⟨nm.toArray⟩, .int .i64 ty, .int .i64 tl, .string ⟨d.toArray⟩] rfl rfl (alloc_last _ _ _ (by simp)) rfl (by omega) (by omega) ?_; intro ao2 cap2 w4 hr4 hu4 hf4; have hr4h := Lib.hid hr4; have hu4h := Lib.hid hu4; have hf4h := Lib.hid hf4; clear hr4 hu4 hf4)
          | (with_reducible refine wp_serial (by kernel_rfl) (by kernel_rfl) (by repeat with_reducible (first | apply NoBad.then | apply NoBad.inBlock | apply NoBad.jump | exact NoBad.rets)) ?_) | fail)
        go_roundw
        case rel =>
          have hu5 : Upd0 wr (w3.alloc (.cells #[.string ⟨nm.toArray⟩, .int .i64 ty, .int .i64 tl, .string ⟨d.toArray⟩] 82 (0, 0))) := (by repeat first | with_reducible (first | exact Upd.refl _ _ | assumption | apply Upd.drew | apply Upd.alloc) | refine Upd0.tr ?_ (by with_reducible assumption) | refine Upd.setCell ?_ (fun h => absurd h (by first | exact Nat.lt_irrefl _ | (simp only []; omega))) _)
          refine ⟨j + 1, ao2, cap2, l ++ [⟨nm, ty, tl, d⟩], by omega, by go_num, by simp, by simp; omega, hf, Lib.hid (by simpa [Rc.cells] using hr4h.out), Lib.hid (fun k hk => ?_), ?_⟩
          · have hk2 : (Value.slice ao2 (l.length + 1) cap2).ownBlock = some k := by simpa [Value.ownBlock] using hk
            rcases hf4h.out k hk2 with e | e
            · exact hnew.out k e
            · have h1 := hu5.size
              have h2 := hu.size
              omega
          · exact Upd.trans (hu.tr hu5) hu4h.out (fun n hn e => by have := hnew.out n e; omega)
        case measure => simp [intOf]; omega
    · have hf := Lib.hid (show l = witL xs z by rw [hll.out, List.take_of_length_le (by omega)])
      go_wp2_with (first | (with_reducible refine wp_serial (by kernel_rfl) (by kernel_rfl) (by repeat with_reducible (first | apply NoBad.then | apply NoBad.inBlock | apply NoBad.jump | exact NoBad.rets)) ?_) | fail)
      all_goals go_returns
      all_goals exact ⟨ao', cap', by rw [← hf.out]; rfl, by rw [← hf.out]; exact own_rsr hown.out rfl, hu, fun g o e => hnew.out g (by rw [e]; rfl)⟩
set_option maxRecDepth 100000 in
set_option maxHeartbeats 4000000 in
theorem rwithin_bw (ao : Option Addr) (cap : Nat) (xs : List Rc) (z : Bs) (w : World) (h : RsR w ao xs) (hl : xs.length ≤ 5000) (hs : ∀ x ∈ xs, x.nm.length ≤ 5000 ∧ x.d.length ≤ 5000) (hz : z.length ≤ 5000) :
    Calls Try.prog 23 #[.slice ao xs.length cap, .string ⟨z.toArray⟩] w (Rets fun r w' => ∃ ao' cap', r = .slice ao' (witL xs z).length cap' ∧ RsR w' ao' (witL xs z) ∧ Upd0 w w' ∧ ∀ g o, ao' = some ⟨g, o, none⟩ → w.heap.size ≤ g) := by
  obtain ⟨i0, hi, hz0, hz1, hz2⟩ := info_parts info_r
  have hh := Lib.hid h
  have hsh := Lib.hid hs
  clear h hs
  go_enter Try.func23, Try.ntmps23
  go_wp2_with (first | (with_reducible refine wp_serial (by kernel_rfl) (by kernel_rfl) (by repeat with_reducible (first | apply NoBad.then | apply NoBad.inBlock | apply NoBad.jump | exact NoBad.rets)) ?_) | fail)
  go_loopw [5, 6] (fun vv jj wr => ∃ (j : Nat) (ao' : Option Addr) (cap' : Nat) (l : List Rc), j ≤ xs.length ∧ jj = .int .i64 j ∧ vv = .slice ao' l.length cap' ∧ l.length ≤ j ∧ Hid (l = witL (xs.take j) z) ∧ Hid (wr.ownsRow 0 82 4 (.slice ao' l.length cap') l.length (l.flatMap Rc.cells)) ∧ Hid (∀ k, (Value.slice ao' l.length cap').ownBlock = some k → w.heap.size ≤ k) ∧ Upd0 w wr) (fun vv jj _ => xs.length - (intOf jj).toNat)
  case atStart => exact ⟨0, none, 0, [], Nat.zero_le _, rfl, rfl, Nat.le_refl _, Lib.hid rfl, Lib.hid ⟨rfl, .inl ⟨rfl, rfl⟩⟩, Lib.hid (fun k hk => by simp [Value.ownBlock] at hk), Upd.refl _ _⟩
  case round =>
    obtain ⟨j, ao', cap', l, hj, rfl, rfl, hlj, hll, hown, hnew, hu⟩ := hrel
    by_cases hlt : j < xs.length
    · obtain ⟨x, hx⟩ : ∃ x, xs[j]? = some x := ⟨xs[j], List.getElem?_eq_getElem hlt⟩
      obtain ⟨g, o, rfl, hg, e0, e1, e2, e3⟩ := hh.out.some hx
      have d0 := hu.cell (fun h => h) e0
      have d1 := hu.cell (fun h => h) e1
      have d2 := hu.cell (fun h => h) e2
      have d3 := hu.cell (fun h => h) e3
      have hgw : g < wr.heap.size := Nat.lt_of_lt_of_le hg hu.size
      have hxl := hsh.out x (List.mem_of_getElem? hx)
      have hxh := Lib.hid hx
      have hC := Lib.hid (rrecCheck_w x.nm x.ty x.tl x.d (by omega) (by omega))
      have hU := Lib.hid (runder_w x.nm z (by omega) (by omega))
      clear hx e0 e1 e2 e3
      cases hp : witB z x with
      | false =>
        have hf := Lib.hid (hll.out.trans (wit_skip hxh.out hp).symm)
        simp only [witB] at hp
        cases hok : x.ok with
        | false =>
          have hne : ¬ recC x.nm x.ty x.tl x.d = 0 := fun e => by rw [rok_iff.2 e] at hok; cases hok
          obtain ⟨c, hc⟩ : ∃ c, recC x.nm x.ty x.tl x.d = c := ⟨_, rfl⟩
          rw [hc] at hne hC
          clear hok hp hc
          obtain ⟨nm, ty, tl, d⟩ := x
          simp only [] at hC hU
          go_wp2_with (first
            | (go_at_call 54; (with_reducible refine (hC.out _).use ?_); rintro v w2 ⟨rfl, hu2⟩)
            | (with_reducible refine wp_serial (by kernel_rfl) (by kernel_rfl) (by repeat with_reducible (first | apply NoBad.then | apply NoBad.inBlock | apply NoBad.jump | exact NoBad.rets)) ?_) | fail)
          go_roundw
          case rel => exact ⟨j + 1, ao', cap', l, by omega, by go_num, rfl, by omega, hf, Lib.hid (ownsRow_ext hown.out (Upd.ext (w := wr) (by repeat first | with_reducible (first | exact Upd.refl _ _ | assumption | apply Upd.drew | apply Upd.alloc) | refine Upd0.tr ?_ (by with_reducible assumption) | refine Upd.setCell ?_ (fun h => absurd h (by first | exact Nat.lt_irrefl _ | (simp only []; omega))) _))), hnew, (by repeat first | with_reducible (first | exact Upd.refl _ _ | assumption | apply Upd.drew | apply Upd.alloc) | refine Upd0.tr ?_ (by with_reducible assumption) | refine Upd.setCell ?_ (fun h => absurd h (by first | exact Nat.lt_irrefl _ | (simp only []; omega))) _)⟩
          case measure => simp [intOf]; omega
        | true =>
          rw [hok, Bool.true_and] at hp
          rw [rok_iff.1 hok] at hC
          rw [hp] at hU
          clear hok hp
          obtain ⟨nm, ty, tl, d⟩ := x
          simp only [] at hC hU
          go_wp2_with (first
            | (go_at_call 54; (with_reducible refine (hC.out _).use ?_); rintro v w2 ⟨rfl, hu2⟩; have y0 := hu2.cell (fun h => h) d0; have y1 := hu2.cell (fun h => h) d1; have y2 := hu2.cell (fun h => h) d2; have y3 := hu2.cell (fun h => h) d3)
            | (go_at_call 26; (with_reducible refine (hU.out _).use ?_); rintro v w3 ⟨rfl, hu3⟩)
            | (with_reducible refine wp_serial (by kernel_rfl) (by kernel_rfl) (by repeat with_reducible (first | apply NoBad.then | apply NoBad.inBlock | apply NoBad.jump | exact NoBad.rets)) ?_) | fail)
          go_roundw
          case rel => exact ⟨j + 1, ao', cap', l, by omega, by go_num, rfl, by omega, hf, Lib.hid (ownsRow_ext hown.out (Upd.ext (w := wr) (by repeat first | with_reducible (first | exact Upd.refl _ _ | assumption | apply Upd.drew | apply Upd.alloc) | refine Upd0.tr ?_ (by with_reducible assumption) | refine Upd.setCell ?_ (fun h => absurd h (by first | exact Nat.lt_irrefl _ | (simp only []; omega))) _))), hnew, (by repeat first | with_reducible (first | exact Upd.refl _ _ | assumption | apply Upd.drew | apply Upd.alloc) | refine Upd0.tr ?_ (by with_reducible assumption) | refine Upd.setCell ?_ (fun h => absurd h (by first | exact Nat.lt_irrefl _ | (simp only []; omega))) _)⟩
          case measure => simp [intOf]; omega
      | true =>
        have hf := Lib.hid (show l ++ [x] = witL (xs.take (j + 1)) z by rw [wit_more hxh.out hp, hll.out])
        simp only [witB, Bool.and_eq_true] at hp
        rw [rok_iff.1 hp.1] at hC
        rw [hp.2] at hU
        clear hp
        obtain ⟨nm, ty, tl, d⟩ := x
        simp only [] at hC hU
        go_wp2_with (first
          | (go_at_call 54; (with_reducible refine (hC.out _).use ?_); rintro v w2 ⟨rfl, hu2⟩; have y0 := hu2.cell (fun h => h) d0; have y1 := hu2.cell (fun h => h) d1; have y2 := hu2.cell (fun h => h) d2; have y3 := hu2.cell (fun h => h) d3)
          | (go_at_call 26; (with_reducible refine (hU.out _).use ?_); rintro v w3 ⟨rfl, hu3⟩; have z0 := hu3.cell (fun h => h) y0; have z1 := hu3.cell (fun h => h) y1; have z2 := hu3.cell (fun h => h) y2; have z3 := hu3.cell (fun h => h) y3)
          | (at_builtin; refine wpList_app (w := wr) (Upd.ext (by repeat first | with_reducible (first | exact Upd.refl _ _ | assumption | apply Upd.drew | apply Upd.alloc) | refine Upd0.tr ?_ (by with_reducible assumption) | refine Upd.setCell ?_ (fun h => absurd h (by first | exact Nat.lt_irrefl _ | (simp only []; omega))) _)) rfl (.tmp 28) (.tmp 33) 23 rfl 82 i0 _ 4 48 Try.underlying23 hi hz0 hz1 hz2 rfl (by decide) _ _ _ hown.out rfl _ _ _ [.string ⟨nm.toArray⟩, .int .i64 ty, .int .i64 tl, .string ⟨d.toArray⟩] rfl rfl (alloc_last _ _ _ (by simp)) rfl (by omega) (by omega) ?_; intro ao2 cap2 w4 hr4 hu4 hf4; have hr4h := Lib.hid hr4; have hu4h := Lib.hid hu4; have hf4h := Lib.hid hf4; clear hr4 hu4 hf4)
          | (with_reducible refine wp_serial (by kernel_rfl) (by kernel_rfl) (by repeat with_reducible (first | apply NoBad.then | apply NoBad.inBlock | apply NoBad.jump | exact NoBad.rets)) ?_) | fail)
        go_roundw
        case rel =>
          have hu5 : Upd0 wr (w3.alloc (.cells #[.string ⟨nm.toArray⟩, .int .i64 ty, .int .i64 tl, .string ⟨d.toArray⟩] 82 (0, 0))) := (by repeat first | with_reducible (first | exact Upd.refl _ _ | assumption | apply Upd.drew | apply Upd.alloc) | refine Upd0.tr ?_ (by with_reducible assumption) | refine Upd.setCell ?_ (fun h => absurd h (by first | exact Nat.lt_irrefl _ | (simp only []; omega))) _)
          refine ⟨j + 1, ao2, cap2, l ++ [⟨nm, ty, tl, d⟩], by omega, by go_num, by simp, by simp; omega, hf, Lib.hid (by simpa [Rc.cells] using hr4h.out), Lib.hid (fun k hk => ?_), ?_⟩
          · have hk2 : (Value.slice ao2 (l.length + 1) cap2).ownBlock = some k := by simpa [Value.ownBlock] using hk
            rcases hf4h.out k hk2 with e | e
            · exact hnew.out k e
            · have h1 := hu5.size
              have h2 := hu.size
              omega
          · exact Upd.trans (hu.tr hu5) hu4h.out (fun n hn e => by have := hnew.out n e; omega)
        case measure => simp [intOf]; omega
    · have hf := Lib.hid (show l = witL xs z by rw [hll.out, List.take_of_length_le (by omega)])
      go_wp2_with (first | (with_reducible refine wp_serial (by kernel_rfl) (by kernel_rfl) (by repeat with_reducible (first | apply NoBad.then | apply NoBad.inBlock | apply NoBad.jump | exact NoBad.rets)) ?_) | fail)
      all_goals go_returns
      all_goals exact ⟨ao', cap', by rw [← hf.out]; rfl, by rw [← hf.out]; exact own_rsr hown.out rfl, hu, fun g o e => hnew.out g (by rw [e]; rfl)⟩
end Go.Proofs.Ytijmbpokglohbaa

namespace Go.Proofs.Ytijmbpokglohbaa
open Go.RowKit
set_option linter.unusedSimpArgs false
set_option linter.unusedVariables false
def jAns (n : Bs) (k : Int) (an : List Rc) : Int × Bs := if fndB (ansB n k) an then (1, fold n) else (0, [])
def jAli (n : Bs) (an : List Rc) : Int × Bs := if fndB (aliB n) an then (5, fold (phN 5 (fndV (aliB n) an).d)) else (0, [])
def jDen (n : Bs) (c : Int) (ns : List Rc) : Int × Bs := if fndB (denB n) ns then (if c = 3 then 3 else 2, fold (fndV (denB n) ns).nm) else (0, [])
def jRef (n z : Bs) (c : Int) (ns : List Rc) : Int × Bs := if c = 0 then (match best n z ns with | some x => (4, x) | none => (6, [])) else (6, [])
theorem fndV_len {p : Rc → Bool} {xs : List Rc} (h : rcsh xs) : (fndV p xs).nm.length ≤ 5000 ∧ (fndV p xs).d.length ≤ 5000 := by
  unfold fndV
  cases hf : xs.find? p with
  | none => exact ⟨by simp, by simp⟩
  | some x => exact h.2 x (List.mem_of_find?_eq_some hf)
theorem phN_le (k : Int) (d : Bs) : (phN k d).length ≤ d.length := by
  unfold phN; split
  · simp; omega
  · simp
def jV (n : Bs) (k : Int) (z : Bs) (c : Int) (av nv : Value) : Value := .agg #[.string ⟨n.toArray⟩, .int .i64 k, .string ⟨z.toArray⟩, .int .i64 c, av, nv]
set_option maxRecDepth 100000 in
set_option maxHeartbeats 2000000 in
theorem answer_w (n : Bs) (k : Int) (z : Bs) (c : Int) (a : Option Addr) (ca : Nat) (an : List Rc) (nv : Value) (w : World) (hn : n.length ≤ 5000) (h : RsR w a an) (hs : rcsh an) :
    Calls Try.prog 48 #[jV n k z c (.slice a an.length ca) nv] w (Rets fun r w' => r = .tuple #[.int .i64 (jAns n k an).1, .string ⟨(jAns n k an).2.toArray⟩] ∧ Upd0 w w') := by
  have hF := Lib.hid (fun (b : Nat) (w' : World) (hu : Upd0 w w') (hb : JQ w' b n k) => firsta_w a ca an b n k hn w' (h.up hu) hs hb)
  have hfo := Lib.hid (fold_w n (by omega))
  unfold jAns
  obtain ⟨⟨nm, ty, tl, d⟩, hv⟩ : ∃ v, fndV (ansB n k) an = v := ⟨_, rfl⟩
  obtain ⟨b, hb⟩ : ∃ b, fndB (ansB n k) an = b := ⟨_, rfl⟩
  rw [hv, hb] at hF
  rw [hb]
  clear h hs hv hb
  simp only [jV, Rc.val] at hF ⊢
  cases b with
  | false =>
    go_enter Try.func48, Try.ntmps48
    go_wp2_with (first
      | (go_at_call 71; (with_reducible refine (hF.out _ _ (by repeat first | with_reducible (first | exact Upd.refl _ _ | assumption | apply Upd.drew | apply Upd.alloc) | refine Upd0.tr ?_ (by with_reducible assumption) | refine Upd.setCell ?_ (fun h => absurd h (by first | exact Nat.lt_irrefl _ | (simp only []; omega))) _) (alloc_last _ _ _ (by simp))).use ?_); rintro v w1 ⟨rfl, hu1⟩)
      | (with_reducible refine wp_serial (by kernel_rfl) (by kernel_rfl) (by repeat with_reducible (first | apply NoBad.then | apply NoBad.inBlock | apply NoBad.jump | exact NoBad.rets)) ?_) | fail)
    all_goals go_returns
    all_goals exact ⟨rfl, (by repeat first | with_reducible (first | exact Upd.refl _ _ | assumption | apply Upd.drew | apply Upd.alloc) | refine Upd0.tr ?_ (by with_reducible assumption) | refine Upd.setCell ?_ (fun h => absurd h (by first | exact Nat.lt_irrefl _ | (simp only []; omega))) _)⟩
  | true =>
    go_enter Try.func48, Try.ntmps48
    go_wp2_with (first
      | (go_at_call 71; (with_reducible refine (hF.out _ _ (by repeat first | with_reducible (first | exact Upd.refl _ _ | assumption | apply Upd.drew | apply Upd.alloc) | refine Upd0.tr ?_ (by with_reducible assumption) | refine Upd.setCell ?_ (fun h => absurd h (by first | exact Nat.lt_irrefl _ | (simp only []; omega))) _) (alloc_last _ _ _ (by simp))).use ?_); rintro v w1 ⟨rfl, hu1⟩; have b1 := Lib.hid (show JQ w1 (w.heap.size + 1) n k from hu1.block (fun h => h) (alloc_last _ _ _ (by simp))); obtain ⟨x0, x1⟩ := cell2w (show w1.heap[w.heap.size + 1]? = _ from b1.out); have hl1 := blk_lt b1.out)
      | (go_at_call 66; (with_reducible refine (hfo.out _).use ?_); rintro v w2 ⟨rfl, hu2⟩)
      | (with_reducible refine wp_serial (by kernel_rfl) (by kernel_rfl) (by repeat with_reducible (first | apply NoBad.then | apply NoBad.inBlock | apply NoBad.jump | exact NoBad.rets)) ?_) | fail)
    all_goals go_returns
    all_goals exact ⟨rfl, (by repeat first | with_reducible (first | exact Upd.refl _ _ | assumption | apply Upd.drew | apply Upd.alloc) | refine Upd0.tr ?_ (by with_reducible assumption) | refine Upd.setCell ?_ (fun h => absurd h (by first | exact Nat.lt_irrefl _ | (simp only []; omega))) _)⟩
set_option maxRecDepth 100000 in
set_option maxHeartbeats 2000000 in
theorem alias_w (n : Bs) (k : Int) (z : Bs) (c : Int) (a : Option Addr) (ca : Nat) (an : List Rc) (nv : Value) (w : World) (hn : n.length ≤ 5000) (h : RsR w a an) (hs : rcsh an) :
    Calls Try.prog 49 #[jV n k z c (.slice a an.length ca) nv] w (Rets fun r w' => r = .tuple #[.int .i64 (jAli n an).1, .string ⟨(jAli n an).2.toArray⟩] ∧ Upd0 w w') := by
  have hF := Lib.hid (fun (b : Nat) (w' : World) (hu : Upd0 w w') (hb : JJ w' b n k z c (.slice a an.length ca) nv) => firstl_w a ca an b n k z c _ nv hn w' (h.up hu) hs hb)
  have hlen := fndV_len (p := aliB n) hs
  unfold jAli
  obtain ⟨⟨nm, ty, tl, d⟩, hv⟩ : ∃ v, fndV (aliB n) an = v := ⟨_, rfl⟩
  obtain ⟨b, hb⟩ : ∃ b, fndB (aliB n) an = b := ⟨_, rfl⟩
  rw [hv, hb] at hF
  rw [hb, hv]
  rw [hv] at hlen
  simp only [] at hlen
  have hP := Lib.hid (fun w => parseHost_w 5 d (by omega) w)
  have hfo := Lib.hid (fold_w (phN 5 d) (by have := phN_le 5 d; omega))
  obtain ⟨e, he⟩ : ∃ e, phC 5 d = e := ⟨_, rfl⟩
  obtain ⟨p, hp⟩ : ∃ p, phN 5 d = p := ⟨_, rfl⟩
  simp only []
  rw [he, hp] at hP
  rw [hp] at hfo ⊢
  clear h hs hv hb he hp
  simp only [jV, Rc.val] at hF ⊢
  cases b with
  | false =>
    go_enter Try.func49, Try.ntmps49
    go_wp2_with (first
      | (go_at_call 71; (with_reducible refine (hF.out _ _ (by repeat first | with_reducible (first | exact Upd.refl _ _ | assumption | apply Upd.drew | apply Upd.alloc) | refine Upd0.tr ?_ (by with_reducible assumption) | refine Upd.setCell ?_ (fun h => absurd h (by first | exact Nat.lt_irrefl _ | (simp only []; omega))) _) (alloc_last _ _ _ (by simp))).use ?_); rintro v w1 ⟨rfl, hu1⟩)
      | (with_reducible refine wp_serial (by kernel_rfl) (by kernel_rfl) (by repeat with_reducible (first | apply NoBad.then | apply NoBad.inBlock | apply NoBad.jump | exact NoBad.rets)) ?_) | fail)
    all_goals go_returns
    all_goals exact ⟨rfl, (by repeat first | with_reducible (first | exact Upd.refl _ _ | assumption | apply Upd.drew | apply Upd.alloc) | refine Upd0.tr ?_ (by with_reducible assumption) | refine Upd.setCell ?_ (fun h => absurd h (by first | exact Nat.lt_irrefl _ | (simp only []; omega))) _)⟩
  | true =>
    go_enter Try.func49, Try.ntmps49
    go_wp2_with (first
      | (go_at_call 71; (with_reducible refine (hF.out _ _ (by repeat first | with_reducible (first | exact Upd.refl _ _ | assumption | apply Upd.drew | apply Upd.alloc) | refine Upd0.tr ?_ (by with_reducible assumption) | refine Upd.setCell ?_ (fun h => absurd h (by first | exact Nat.lt_irrefl _ | (simp only []; omega))) _) (alloc_last _ _ _ (by simp))).use ?_); rintro v w1 ⟨rfl, hu1⟩)
      | (go_at_call 74; (with_reducible refine (hP.out _).use ?_); rintro v w2 ⟨rfl, hu2⟩)
      | (go_at_call 66; (with_reducible refine (hfo.out _).use ?_); rintro v w3 ⟨rfl, hu3⟩)
      | (with_reducible refine wp_serial (by kernel_rfl) (by kernel_rfl) (by repeat with_reducible (first | apply NoBad.then | apply NoBad.inBlock | apply NoBad.jump | exact NoBad.rets)) ?_) | fail)
    all_goals go_returns
    all_goals exact ⟨rfl, (by repeat first | with_reducible (first | exact Upd.refl _ _ | assumption | apply Upd.drew | apply Upd.alloc) | refine Upd0.tr ?_ (by with_reducible assumption) | refine Upd.setCell ?_ (fun h => absurd h (by first | exact Nat.lt_irrefl _ | (simp only []; omega))) _)⟩
set_option maxRecDepth 100000 in
set_option maxHeartbeats 2000000 in
theorem denial_w (n : Bs) (k : Int) (z : Bs) (c : Int) (a : Option Addr) (ca : Nat) (ns : List Rc) (av : Value) (w : World) (hn : n.length ≤ 5000) (h : RsR w a ns) (hs : rcsh ns) :
    Calls Try.prog 50 #[jV n k z c av (.slice a ns.length ca)] w (Rets fun r w' => r = .tuple #[.int .i64 (jDen n c ns).1, .string ⟨(jDen n c ns).2.toArray⟩] ∧ Upd0 w w') := by
  have hF := Lib.hid (fun (b : Nat) (w' : World) (hu : Upd0 w w') (hb : JJ w' b n k z c av (.slice a ns.length ca)) => firstd_w a ca ns b n k z c av _ hn w' (h.up hu) hs hb)
  have hlen := fndV_len (p := denB n) hs
  unfold jDen
  obtain ⟨⟨nm, ty, tl, d⟩, hv⟩ : ∃ v, fndV (denB n) ns = v := ⟨_, rfl⟩
  obtain ⟨b, hb⟩ : ∃ b, fndB (denB n) ns = b := ⟨_, rfl⟩
  rw [hv, hb] at hF
  rw [hb, hv]
  rw [hv] at hlen
  simp only [] at hlen
  have hfo := Lib.hid (fold_w nm (by omega))
  clear h hs hv hb
  simp only [jV, Rc.val] at hF ⊢
  cases b with
  | false =>
    go_enter Try.func50, Try.ntmps50
    go_wp2_with (first
      | (go_at_call 71; (with_reducible refine (hF.out _ _ (by repeat first | with_reducible (first | exact Upd.refl _ _ | assumption | apply Upd.drew | apply Upd.alloc) | refine Upd0.tr ?_ (by with_reducible assumption) | refine Upd.setCell ?_ (fun h => absurd h (by first | exact Nat.lt_irrefl _ | (simp only []; omega))) _) (alloc_last _ _ _ (by simp))).use ?_); rintro v w1 ⟨rfl, hu1⟩)
      | (with_reducible refine wp_serial (by kernel_rfl) (by kernel_rfl) (by repeat with_reducible (first | apply NoBad.then | apply NoBad.inBlock | apply NoBad.jump | exact NoBad.rets)) ?_) | fail)
    all_goals go_returns
    all_goals exact ⟨rfl, (by repeat first | with_reducible (first | exact Upd.refl _ _ | assumption | apply Upd.drew | apply Upd.alloc) | refine Upd0.tr ?_ (by with_reducible assumption) | refine Upd.setCell ?_ (fun h => absurd h (by first | exact Nat.lt_irrefl _ | (simp only []; omega))) _)⟩
  | true =>
    by_cases hc : c = 3
    · subst hc
      go_enter Try.func50, Try.ntmps50
      go_wp2_with (first
        | (go_at_call 71; (with_reducible refine (hF.out _ _ (by repeat first | with_reducible (first | exact Upd.refl _ _ | assumption | apply Upd.drew | apply Upd.alloc) | refine Upd0.tr ?_ (by with_reducible assumption) | refine Upd.setCell ?_ (fun h => absurd h (by first | exact Nat.lt_irrefl _ | (simp only []; omega))) _) (alloc_last _ _ _ (by simp))).use ?_); rintro v w1 ⟨rfl, hu1⟩; have b1 := Lib.hid (show JJ w1 w.heap.size n k z 3 av (.slice a ns.length ca) from hu1.block (fun h => h) (alloc_last _ _ _ (by simp))); obtain ⟨x0, x1, x2, x3, x4, x5⟩ := jcells (show w1.heap[w.heap.size]? = _ from b1.out); have hl1 := blk_lt b1.out; have hne : ¬ w.heap.size = w1.heap.size := (by omega))
        | (go_at_call 66; (with_reducible refine (hfo.out _).use ?_); rintro v w2 ⟨rfl, hu2⟩)
        | (with_reducible refine wp_serial (by kernel_rfl) (by kernel_rfl) (by repeat with_reducible (first | apply NoBad.then | apply NoBad.inBlock | apply NoBad.jump | exact NoBad.rets)) ?_) | fail)
      all_goals go_returns
      all_goals exact ⟨rfl, (by repeat first | with_reducible (first | exact Upd.refl _ _ | assumption | apply Upd.drew | apply Upd.alloc) | refine Upd0.tr ?_ (by with_reducible assumption) | refine Upd.setCell ?_ (fun h => absurd h (by first | exact Nat.lt_irrefl _ | (simp only []; omega))) _)⟩
    · rw [if_neg hc]
      have hc2 : (c == 3) = false := beq_eq_false_iff_ne.2 hc
      clear hc
      go_enter Try.func50, Try.ntmps50
      go_wp2_with (first
        | (go_at_call 71; (with_reducible refine (hF.out _ _ (by repeat first | with_reducible (first | exact Upd.refl _ _ | assumption | apply Upd.drew | apply Upd.alloc) | refine Upd0.tr ?_ (by with_reducible assumption) | refine Upd.setCell ?_ (fun h => absurd h (by first | exact Nat.lt_irrefl _ | (simp only []; omega))) _) (alloc_last _ _ _ (by simp))).use ?_); rintro v w1 ⟨rfl, hu1⟩; have b1 := Lib.hid (show JJ w1 w.heap.size n k z c av (.slice a ns.length ca) from hu1.block (fun h => h) (alloc_last _ _ _ (by simp))); obtain ⟨x0, x1, x2, x3, x4, x5⟩ := jcells (show w1.heap[w.heap.size]? = _ from b1.out); have hl1 := blk_lt b1.out; have hne : ¬ w.heap.size = w1.heap.size := (by omega))
        | (go_at_call 66; (with_reducible refine (hfo.out _).use ?_); rintro v w2 ⟨rfl, hu2⟩)
        | (with_reducible refine wp_serial (by kernel_rfl) (by kernel_rfl) (by repeat with_reducible (first | apply NoBad.then | apply NoBad.inBlock | apply NoBad.jump | exact NoBad.rets)) ?_) | fail)
      all_goals go_returns
      all_goals exact ⟨rfl, (by repeat first | with_reducible (first | exact Upd.refl _ _ | assumption | apply Upd.drew | apply Upd.alloc) | refine Upd0.tr ?_ (by with_reducible assumption) | refine Upd.setCell ?_ (fun h => absurd h (by first | exact Nat.lt_irrefl _ | (simp only []; omega))) _)⟩
/-- the best one so far, as the program keeps it -/
def BestS (b : Option Bs) (x : Bs) (mo : Int) : Prop := (b = none ∧ x = [] ∧ mo = -1) ∨ (b = some x ∧ mo = ((cutL x).length : Nat))
theorem BestS.deep {b : Option Bs} {x : Bs} {mo : Int} (h : BestS b x mo) (F : Bs) : deepB b F = decide (mo < ((cutL F).length : Nat)) := by
  rcases h with ⟨rfl, rfl, rfl⟩ | ⟨rfl, rfl⟩
  · rw [deepB, decide_eq_true (by omega)]
  · rw [deepB]; exact decide_eq_decide.2 (by omega)
theorem BestS.low {b : Option Bs} {x : Bs} {mo : Int} (h : BestS b x mo) : -1 ≤ mo := by
  rcases h with ⟨_, _, rfl⟩ | ⟨_, rfl⟩ <;> omega
theorem best_snoc (n z : Bs) {xs : List Rc} {j : Nat} {x : Rc} (hx : xs[j]? = some x) : best n z (xs.take (j + 1)) = bstep n z (best n z (xs.take j)) x := by
  rw [List.take_add_one, hx, best, List.foldl_append]; rfl
theorem fold_le (n : Bs) : (fold n).length ≤ n.length := by rw [fold_len]; exact Nat.le_refl _
theorem cutL_le (s : Bs) : (cutL s).length ≤ s.length := by have := trn_len s; simp only [trn, List.length_reverse, List.length_map] at this; exact this
set_option maxRecDepth 100000 in
set_option maxHeartbeats 8000000 in
theorem referral_w (n : Bs) (k : Int) (z : Bs) (c : Int) (a : Option Addr) (ca : Nat) (ns : List Rc) (av : Value) (w : World) (hn : n.length ≤ 5000) (hz : z.length ≤ 5000) (h : RsR w a ns) (hs : rcsh ns) :
    Calls Try.prog 51 #[jV n k z c av (.slice a ns.length ca)] w (Rets fun r w' => r = .tuple #[.int .i64 (jRef n z c ns).1, .string ⟨(jRef n z c ns).2.toArray⟩] ∧ Upd0 w w') := by
  have hh := Lib.hid h
  have hl := hs.1
  have hsh := Lib.hid hs.2
  clear h hs
  simp only [jV]
  go_enter Try.func51, Try.ntmps51
  go_wp2_with (first | (with_reducible refine wp_serial (by kernel_rfl) (by kernel_rfl) (by repeat with_reducible (first | apply NoBad.then | apply NoBad.inBlock | apply NoBad.jump | exact NoBad.rets)) ?_) | fail)
  obtain ⟨W, hW⟩ : ∃ W, w.alloc (.cells #[.string ⟨n.toArray⟩, .int .i64 k, .string ⟨z.toArray⟩, .int .i64 c, av, .slice a ns.length ca] 86 (0, 0)) = W := ⟨_, rfl⟩
  have hWj := Lib.hid (show JJ W w.heap.size n k z c av (.slice a ns.length ca) by rw [← hW]; exact alloc_last _ _ _ rfl)
  have hWu := Lib.hid (show Upd0 w W by rw [← hW]; exact (Upd.refl _ _).alloc _)
  rw [hW]
  clear hW
  go_loopw [4, 5, 7, 8, 9, 13] (fun bx mo _ _ _ jj wr => ∃ (j : Nat) (x : Bs) (m : Int), j ≤ ns.length ∧ jj = .int .i64 j ∧ bx = .string ⟨x.toArray⟩ ∧ mo = .int .i64 m ∧ Hid (BestS (best n z (ns.take j)) x m) ∧ Upd0 W wr) (fun _ _ _ _ _ jj _ => ns.length - (intOf jj).toNat)
  case atStart => exact ⟨0, [], -1, Nat.zero_le _, rfl, rfl, rfl, Lib.hid (.inl ⟨rfl, rfl, rfl⟩), Upd.refl _ _⟩
  case round =>
    obtain ⟨j, x, m, hj, rfl, rfl, rfl, hb, hu⟩ := hrel
    have bj := Lib.hid (show JJ wr w.heap.size n k z c av (.slice a ns.length ca) from hu.block (fun h => h) hWj.out)
    obtain ⟨j0, j1, j2, j3, j4, j5⟩ := jcells (show wr.heap[w.heap.size]? = _ from bj.out)
    have hjl := blk_lt bj.out
    have hm := hb.out.low
    by_cases hlt : j < ns.length
    · obtain ⟨⟨nm, ty, tl, d⟩, hx⟩ : ∃ y, ns[j]? = some y := ⟨ns[j], List.getElem?_eq_getElem hlt⟩
      obtain ⟨g, o, rfl, hg, e0, e1, e2, e3⟩ := hh.out.some hx
      have hu9 : Upd0 w wr := hWu.out.tr hu
      have d0 := hu9.cell (fun h => h) e0
      have d1 := hu9.cell (fun h => h) e1
      have d2 := hu9.cell (fun h => h) e2
      have d3 := hu9.cell (fun h => h) e3
      have hgw : g < wr.heap.size := Nat.lt_of_lt_of_le hg hu9.size
      have hxl := hsh.out _ (List.mem_of_getElem? hx)
      dsimp only at hxl d0 d1 d2 d3
      have hst := Lib.hid (best_snoc n z hx)
      have hfl := fold_le nm
      have hkl := cutL_le (fold nm)
      have hFo := Lib.hid (fold_w nm (by omega))
      have hLa := Lib.hid (labels_w (fold nm) (by omega))
      have hUn := Lib.hid (under_w n (fold nm) (by omega) (by omega))
      have hSa := Lib.hid (same_w (fold nm) z (by omega) (by omega))
      have hstep := Lib.hid (show bstep n z (best n z (ns.take j)) ⟨nm, ty, tl, d⟩ = if (decide (ty = 2) && (undB n (fold nm) && !sameB (fold nm) z)) && decide (m < ((cutL (fold nm)).length : Nat)) then some (fold nm) else best n z (ns.take j) by
        rw [← hb.out.deep]; simp only [bstep, refB, undB_fold2, sameB_fold1]; rfl)
      obtain ⟨K, hK⟩ : ∃ K, (cutL (fold nm)).length = K := ⟨_, rfl⟩
      have hKh := Lib.hid hK
      rw [hK] at hLa hstep hkl
      obtain ⟨F, hF⟩ : ∃ F, fold nm = F := ⟨_, rfl⟩
      rw [hF] at hFo hLa hUn hSa hstep hkl hfl hKh
      obtain ⟨u, hu'⟩ : ∃ u, undB n F = u := ⟨_, rfl⟩
      obtain ⟨s, hs'⟩ : ∃ s, sameB F z = s := ⟨_, rfl⟩
      rw [hu'] at hUn hstep
      rw [hs'] at hSa hstep
      clear hx e0 e1 e2 e3 hK hF hu' hs'
      have hcase : (ty = 2 ∧ u = true ∧ s = false ∧ m < (K : Int)) ∨ (ty = 2 ∧ u = true ∧ s = false ∧ ¬ m < (K : Int)) ∨ (ty = 2 ∧ u = true ∧ s = true) ∨ (ty = 2 ∧ u = false) ∨ ¬ ty = 2 := by
        by_cases h1 : ty = 2 <;> by_cases h2 : m < (K : Int) <;> cases u <;> cases s <;> simp [h1, h2]
      rcases hcase with ⟨rfl, rfl, rfl, h4⟩ | ⟨rfl, rfl, rfl, h4⟩ | ⟨rfl, rfl, rfl⟩ | ⟨rfl, rfl⟩ | h1
      · have hnew := Lib.hid (show BestS (best n z (ns.take (j + 1))) F K by
          rw [hst.out, hstep.out, decide_eq_true h4]; exact .inr ⟨rfl, by rw [hKh.out]⟩)
        go_wp2_with (first
          | (go_at_call 66; (with_reducible refine (hFo.out _).use ?_); rintro v w1 ⟨rfl, hu1⟩; have b1 := Lib.hid (show rcell w1 wr.heap.size ⟨nm, _, tl, d⟩ from hu1.block (fun h => h) (alloc_last _ _ _ rfl)); obtain ⟨y10, y11, y12, y13, y14⟩ := four b1.out; have bj1 := Lib.hid (show JJ w1 w.heap.size n k z c av (.slice (some ⟨g, o, none⟩) ns.length ca) from hu1.block (fun h => h) (blk_alloc bj.out)); obtain ⟨x10, x11, x12, x13, x14, x15⟩ := jcells (show w1.heap[w.heap.size]? = _ from bj1.out); have hl1 := blk_lt b1.out)
          | (go_at_call 76; (with_reducible refine (hLa.out _).use ?_); rintro v w2 ⟨ao2, cp2, rfl, ho2, hu2⟩; clear ho2; have b2 := Lib.hid (show rcell w2 wr.heap.size ⟨nm, _, tl, d⟩ from hu2.block (fun h => h) b1.out); obtain ⟨y20, y21, y22, y23, y24⟩ := four b2.out; have bj2 := Lib.hid (show JJ w2 w.heap.size n k z c av (.slice (some ⟨g, o, none⟩) ns.length ca) from hu2.block (fun h => h) bj1.out); obtain ⟨x20, x21, x22, x23, x24, x25⟩ := jcells (show w2.heap[w.heap.size]? = _ from bj2.out); have hl2 := blk_lt b2.out)
          | (go_at_call 47; (with_reducible refine (hUn.out _).use ?_); rintro v w3 ⟨rfl, hu3⟩; have b3 := Lib.hid (show rcell w3 wr.heap.size ⟨nm, _, tl, d⟩ from hu3.block (fun h => h) b2.out); obtain ⟨y30, y31, y32, y33, y34⟩ := four b3.out; have bj3 := Lib.hid (show JJ w3 w.heap.size n k z c av (.slice (some ⟨g, o, none⟩) ns.length ca) from hu3.block (fun h => h) bj2.out); obtain ⟨x30, x31, x32, x33, x34, x35⟩ := jcells (show w3.heap[w.heap.size]? = _ from bj3.out); have hl3 := blk_lt b3.out)
          | (go_at_call 45; (with_reducible refine (hSa.out _).use ?_); rintro v w4 ⟨rfl, hu4⟩)
          | (with_reducible refine wp_serial (by kernel_rfl) (by kernel_rfl) (by repeat with_reducible (first | apply NoBad.then | apply NoBad.inBlock | apply NoBad.jump | exact NoBad.rets)) ?_) | fail)
        go_roundw
        case rel => exact ⟨j + 1, F, K, by omega, by go_num, rfl, rfl, hnew, (by repeat first | with_reducible (first | exact Upd.refl _ _ | assumption | apply Upd.drew | apply Upd.alloc) | refine Upd0.tr ?_ (by with_reducible assumption) | refine Upd.setCell ?_ (fun h => absurd h (by first | exact Nat.lt_irrefl _ | (simp only []; omega))) _)⟩
        case measure => simp [intOf]; omega
      · have hnew := Lib.hid (show BestS (best n z (ns.take (j + 1))) x m by
          rw [hst.out, hstep.out, decide_eq_false h4]; simpa using hb.out)
        go_wp2_with (first
          | (go_at_call 66; (with_reducible refine (hFo.out _).use ?_); rintro v w1 ⟨rfl, hu1⟩; have b1 := Lib.hid (show rcell w1 wr.heap.size ⟨nm, _, tl, d⟩ from hu1.block (fun h => h) (alloc_last _ _ _ rfl)); obtain ⟨y10, y11, y12, y13, y14⟩ := four b1.out; have bj1 := Lib.hid (show JJ w1 w.heap.size n k z c av (.slice (some ⟨g, o, none⟩) ns.length ca) from hu1.block (fun h => h) (blk_alloc bj.out)); obtain ⟨x10, x11, x12, x13, x14, x15⟩ := jcells (show w1.heap[w.heap.size]? = _ from bj1.out); have hl1 := blk_lt b1.out)
          | (go_at_call 76; (with_reducible refine (hLa.out _).use ?_); rintro v w2 ⟨ao2, cp2, rfl, ho2, hu2⟩; clear ho2; have b2 := Lib.hid (show rcell w2 wr.heap.size ⟨nm, _, tl, d⟩ from hu2.block (fun h => h) b1.out); obtain ⟨y20, y21, y22, y23, y24⟩ := four b2.out; have bj2 := Lib.hid (show JJ w2 w.heap.size n k z c av (.slice (some ⟨g, o, none⟩) ns.length ca) from hu2.block (fun h => h) bj1.out); obtain ⟨x20, x21, x22, x23, x24, x25⟩ := jcells (show w2.heap[w.heap.size]? = _ from bj2.out); have hl2 := blk_lt b2.out)
          | (go_at_call 47; (with_reducible refine (hUn.out _).use ?_); rintro v w3 ⟨rfl, hu3⟩; have b3 := Lib.hid (show rcell w3 wr.heap.size ⟨nm, _, tl, d⟩ from hu3.block (fun h => h) b2.out); obtain ⟨y30, y31, y32, y33, y34⟩ := four b3.out; have bj3 := Lib.hid (show JJ w3 w.heap.size n k z c av (.slice (some ⟨g, o, none⟩) ns.length ca) from hu3.block (fun h => h) bj2.out); obtain ⟨x30, x31, x32, x33, x34, x35⟩ := jcells (show w3.heap[w.heap.size]? = _ from bj3.out); have hl3 := blk_lt b3.out)
          | (go_at_call 45; (with_reducible refine (hSa.out _).use ?_); rintro v w4 ⟨rfl, hu4⟩)
          | (with_reducible refine wp_serial (by kernel_rfl) (by kernel_rfl) (by repeat with_reducible (first | apply NoBad.then | apply NoBad.inBlock | apply NoBad.jump | exact NoBad.rets)) ?_) | fail)
        go_roundw
        case rel => exact ⟨j + 1, x, m, by omega, by go_num, rfl, rfl, hnew, (by repeat first | with_reducible (first | exact Upd.refl _ _ | assumption | apply Upd.drew | apply Upd.alloc) | refine Upd0.tr ?_ (by with_reducible assumption) | refine Upd.setCell ?_ (fun h => absurd h (by first | exact Nat.lt_irrefl _ | (simp only []; omega))) _)⟩
        case measure => simp [intOf]; omega
      · have hnew := Lib.hid (show BestS (best n z (ns.take (j + 1))) x m by
          rw [hst.out, hstep.out]; simpa using hb.out)
        go_wp2_with (first
          | (go_at_call 66; (with_reducible refine (hFo.out _).use ?_); rintro v w1 ⟨rfl, hu1⟩; have b1 := Lib.hid (show rcell w1 wr.heap.size ⟨nm, _, tl, d⟩ from hu1.block (fun h => h) (alloc_last _ _ _ rfl)); obtain ⟨y10, y11, y12, y13, y14⟩ := four b1.out; have bj1 := Lib.hid (show JJ w1 w.heap.size n k z c av (.slice (some ⟨g, o, none⟩) ns.length ca) from hu1.block (fun h => h) (blk_alloc bj.out)); obtain ⟨x10, x11, x12, x13, x14, x15⟩ := jcells (show w1.heap[w.heap.size]? = _ from bj1.out); have hl1 := blk_lt b1.out)
          | (go_at_call 76; (with_reducible refine (hLa.out _).use ?_); rintro v w2 ⟨ao2, cp2, rfl, ho2, hu2⟩; clear ho2; have b2 := Lib.hid (show rcell w2 wr.heap.size ⟨nm, _, tl, d⟩ from hu2.block (fun h => h) b1.out); obtain ⟨y20, y21, y22, y23, y24⟩ := four b2.out; have bj2 := Lib.hid (show JJ w2 w.heap.size n k z c av (.slice (some ⟨g, o, none⟩) ns.length ca) from hu2.block (fun h => h) bj1.out); obtain ⟨x20, x21, x22, x23, x24, x25⟩ := jcells (show w2.heap[w.heap.size]? = _ from bj2.out); have hl2 := blk_lt b2.out)
          | (go_at_call 47; (with_reducible refine (hUn.out _).use ?_); rintro v w3 ⟨rfl, hu3⟩; have b3 := Lib.hid (show rcell w3 wr.heap.size ⟨nm, _, tl, d⟩ from hu3.block (fun h => h) b2.out); obtain ⟨y30, y31, y32, y33, y34⟩ := four b3.out; have bj3 := Lib.hid (show JJ w3 w.heap.size n k z c av (.slice (some ⟨g, o, none⟩) ns.length ca) from hu3.block (fun h => h) bj2.out); obtain ⟨x30, x31, x32, x33, x34, x35⟩ := jcells (show w3.heap[w.heap.size]? = _ from bj3.out); have hl3 := blk_lt b3.out)
          | (go_at_call 45; (with_reducible refine (hSa.out _).use ?_); rintro v w4 ⟨rfl, hu4⟩)
          | (with_reducible refine wp_serial (by kernel_rfl) (by kernel_rfl) (by repeat with_reducible (first | apply NoBad.then | apply NoBad.inBlock | apply NoBad.jump | exact NoBad.rets)) ?_) | fail)
        go_roundw
        case rel => exact ⟨j + 1, x, m, by omega, by go_num, rfl, rfl, hnew, (by repeat first | with_reducible (first | exact Upd.refl _ _ | assumption | apply Upd.drew | apply Upd.alloc) | refine Upd0.tr ?_ (by with_reducible assumption) | refine Upd.setCell ?_ (fun h => absurd h (by first | exact Nat.lt_irrefl _ | (simp only []; omega))) _)⟩
        case measure => simp [intOf]; omega
      · have hnew := Lib.hid (show BestS (best n z (ns.take (j + 1))) x m by
          rw [hst.out, hstep.out]; simpa using hb.out)
        go_wp2_with (first
          | (go_at_call 66; (with_reducible refine (hFo.out _).use ?_); rintro v w1 ⟨rfl, hu1⟩; have b1 := Lib.hid (show rcell w1 wr.heap.size ⟨nm, _, tl, d⟩ from hu1.block (fun h => h) (alloc_last _ _ _ rfl)); obtain ⟨y10, y11, y12, y13, y14⟩ := four b1.out; have bj1 := Lib.hid (show JJ w1 w.heap.size n k z c av (.slice (some ⟨g, o, none⟩) ns.length ca) from hu1.block (fun h => h) (blk_alloc bj.out)); obtain ⟨x10, x11, x12, x13, x14, x15⟩ := jcells (show w1.heap[w.heap.size]? = _ from bj1.out); have hl1 := blk_lt b1.out)
          | (go_at_call 76; (with_reducible refine (hLa.out _).use ?_); rintro v w2 ⟨ao2, cp2, rfl, ho2, hu2⟩; clear ho2; have b2 := Lib.hid (show rcell w2 wr.heap.size ⟨nm, _, tl, d⟩ from hu2.block (fun h => h) b1.out); obtain ⟨y20, y21, y22, y23, y24⟩ := four b2.out; have bj2 := Lib.hid (show JJ w2 w.heap.size n k z c av (.slice (some ⟨g, o, none⟩) ns.length ca) from hu2.block (fun h => h) bj1.out); obtain ⟨x20, x21, x22, x23, x24, x25⟩ := jcells (show w2.heap[w.heap.size]? = _ from bj2.out); have hl2 := blk_lt b2.out)
          | (go_at_call 47; (with_reducible refine (hUn.out _).use ?_); rintro v w3 ⟨rfl, hu3⟩; have b3 := Lib.hid (show rcell w3 wr.heap.size ⟨nm, _, tl, d⟩ from hu3.block (fun h => h) b2.out); obtain ⟨y30, y31, y32, y33, y34⟩ := four b3.out; have bj3 := Lib.hid (show JJ w3 w.heap.size n k z c av (.slice (some ⟨g, o, none⟩) ns.length ca) from hu3.block (fun h => h) bj2.out); obtain ⟨x30, x31, x32, x33, x34, x35⟩ := jcells (show w3.heap[w.heap.size]? = _ from bj3.out); have hl3 := blk_lt b3.out)
          | (go_at_call 45; (with_reducible refine (hSa.out _).use ?_); rintro v w4 ⟨rfl, hu4⟩)
          | (with_reducible refine wp_serial (by kernel_rfl) (by kernel_rfl) (by repeat with_reducible (first | apply NoBad.then | apply NoBad.inBlock | apply NoBad.jump | exact NoBad.rets)) ?_) | fail)
        go_roundw
        case rel => exact ⟨j + 1, x, m, by omega, by go_num, rfl, rfl, hnew, (by repeat first | with_reducible (first | exact Upd.refl _ _ | assumption | apply Upd.drew | apply Upd.alloc) | refine Upd0.tr ?_ (by with_reducible assumption) | refine Upd.setCell ?_ (fun h => absurd h (by first | exact Nat.lt_irrefl _ | (simp only []; omega))) _)⟩
        case measure => simp [intOf]; omega
      · have hnew := Lib.hid (show BestS (best n z (ns.take (j + 1))) x m by
          rw [hst.out, hstep.out, decide_eq_false h1]; simpa using hb.out)
        have h2 : (ty == 2) = false := beq_eq_false_iff_ne.2 h1
        clear h1
        go_wp2_with (first
          | (go_at_call 66; (with_reducible refine (hFo.out _).use ?_); rintro v w1 ⟨rfl, hu1⟩; have b1 := Lib.hid (show rcell w1 wr.heap.size ⟨nm, _, tl, d⟩ from hu1.block (fun h => h) (alloc_last _ _ _ rfl)); obtain ⟨y10, y11, y12, y13, y14⟩ := four b1.out; have bj1 := Lib.hid (show JJ w1 w.heap.size n k z c av (.slice (some ⟨g, o, none⟩) ns.length ca) from hu1.block (fun h => h) (blk_alloc bj.out)); obtain ⟨x10, x11, x12, x13, x14, x15⟩ := jcells (show w1.heap[w.heap.size]? = _ from bj1.out); have hl1 := blk_lt b1.out)
          | (go_at_call 76; (with_reducible refine (hLa.out _).use ?_); rintro v w2 ⟨ao2, cp2, rfl, ho2, hu2⟩; clear ho2; have b2 := Lib.hid (show rcell w2 wr.heap.size ⟨nm, _, tl, d⟩ from hu2.block (fun h => h) b1.out); obtain ⟨y20, y21, y22, y23, y24⟩ := four b2.out; have bj2 := Lib.hid (show JJ w2 w.heap.size n k z c av (.slice (some ⟨g, o, none⟩) ns.length ca) from hu2.block (fun h => h) bj1.out); obtain ⟨x20, x21, x22, x23, x24, x25⟩ := jcells (show w2.heap[w.heap.size]? = _ from bj2.out); have hl2 := blk_lt b2.out)
          | (go_at_call 47; (with_reducible refine (hUn.out _).use ?_); rintro v w3 ⟨rfl, hu3⟩; have b3 := Lib.hid (show rcell w3 wr.heap.size ⟨nm, _, tl, d⟩ from hu3.block (fun h => h) b2.out); obtain ⟨y30, y31, y32, y33, y34⟩ := four b3.out; have bj3 := Lib.hid (show JJ w3 w.heap.size n k z c av (.slice (some ⟨g, o, none⟩) ns.length ca) from hu3.block (fun h => h) bj2.out); obtain ⟨x30, x31, x32, x33, x34, x35⟩ := jcells (show w3.heap[w.heap.size]? = _ from bj3.out); have hl3 := blk_lt b3.out)
          | (go_at_call 45; (with_reducible refine (hSa.out _).use ?_); rintro v w4 ⟨rfl, hu4⟩)
          | (with_reducible refine wp_serial (by kernel_rfl) (by kernel_rfl) (by repeat with_reducible (first | apply NoBad.then | apply NoBad.inBlock | apply NoBad.jump | exact NoBad.rets)) ?_) | fail)
        go_roundw
        case rel => exact ⟨j + 1, x, m, by omega, by go_num, rfl, rfl, hnew, (by repeat first | with_reducible (first | exact Upd.refl _ _ | assumption | apply Upd.drew | apply Upd.alloc) | refine Upd0.tr ?_ (by with_reducible assumption) | refine Upd.setCell ?_ (fun h => absurd h (by first | exact Nat.lt_irrefl _ | (simp only []; omega))) _)⟩
        case measure => simp [intOf]; omega
    · have hu9 := Lib.hid (hWu.out.tr hu)
      have hb2 := Lib.hid (show BestS (best n z ns) x m by have := hb.out; rwa [List.take_of_length_le (by omega)] at this)
      clear hb
      by_cases hc : c = 0
      · subst hc
        rcases hb2.out with ⟨e, rfl, rfl⟩ | ⟨e, e2⟩
        · have e3 : jRef n z 0 ns = (6, []) := by rw [jRef, if_pos rfl, e]
          have e3h := Lib.hid e3
          clear e e3
          go_wp2_with (first | (with_reducible refine wp_serial (by kernel_rfl) (by kernel_rfl) (by repeat with_reducible (first | apply NoBad.then | apply NoBad.inBlock | apply NoBad.jump | exact NoBad.rets)) ?_) | fail)
          all_goals go_returns
          all_goals exact ⟨by rw [e3h.out]; rfl, hu9.out⟩
        · have e3 : jRef n z 0 ns = (4, x) := by rw [jRef, if_pos rfl, e]
          have e3h := Lib.hid e3
          have hm0 : ¬ m < 0 := by omega
          clear e e2 e3
          go_wp2_with (first | (with_reducible refine wp_serial (by kernel_rfl) (by kernel_rfl) (by repeat with_reducible (first | apply NoBad.then | apply NoBad.inBlock | apply NoBad.jump | exact NoBad.rets)) ?_) | fail)
          all_goals go_returns
          all_goals exact ⟨by rw [e3h.out]; rfl, hu9.out⟩
      · have e3 : jRef n z c ns = (6, []) := by rw [jRef, if_neg hc]
        have e3h := Lib.hid e3
        clear e3
        have hc2 : (c != 0) = true := bne_iff_ne.2 hc
        clear hc
        by_cases hm0 : m < 0
        · go_wp2_with (first | (with_reducible refine wp_serial (by kernel_rfl) (by kernel_rfl) (by repeat with_reducible (first | apply NoBad.then | apply NoBad.inBlock | apply NoBad.jump | exact NoBad.rets)) ?_) | fail)
          all_goals go_returns
          all_goals exact ⟨by rw [e3h.out]; rfl, hu9.out⟩
        · go_wp2_with (first | (with_reducible refine wp_serial (by kernel_rfl) (by kernel_rfl) (by repeat with_reducible (first | apply NoBad.then | apply NoBad.inBlock | apply NoBad.jump | exact NoBad.rets)) ?_) | fail)
          all_goals go_returns
          all_goals exact ⟨by rw [e3h.out]; rfl, hu9.out⟩
end Go.Proofs.Ytijmbpokglohbaa
