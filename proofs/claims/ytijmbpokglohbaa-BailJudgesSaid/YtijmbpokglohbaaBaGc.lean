/-
  What may be believed of a reply: the document's Judge.
-/
import Derived.Test.YtijmbpokglohbaaKi
import Derived.Test.YtijmbpokglohbaaBaE
import Derived.Test.YtijmbpokglohbaaKf
namespace Go.Proofs.Ytijmbpokglohbaa
open Go.RowKit
set_option linter.unusedSimpArgs false
set_option linter.unusedVariables false
theorem fnd_hit {p : Rc → Bool} {xs : List Rc} {j : Nat} {x : Rc} (h : (xs.take j).find? p = none) (hx : xs[j]? = some x) (hp : p x = true) : fndB p xs = true ∧ fndV p xs = x := by
  have := find_at h hx hp
  exact ⟨by rw [fndB, this]; rfl, by rw [fndV, this]; rfl⟩
theorem fnd_none {p : Rc → Bool} {xs : List Rc} {j : Nat} (h : (xs.take j).find? p = none) (hj : xs.length ≤ j) : fndB p xs = false := by rw [fndB, find_end h hj]; rfl
theorem jr_ans {n : Bs} {k : Int} {A : List Rc} {j : Nat} {x : Rc} (p : Int × Bs) (h : (A.take j).find? (ansB n k) = none) (hx : A[j]? = some x) (hp : ansB n k x = true) : fst0 (jAns n k A) p = (1, fold n) := by
  rw [jAns, (fnd_hit h hx hp).1]; rfl
theorem jr_ans0 {n : Bs} {k : Int} {A : List Rc} {j : Nat} (p : Int × Bs) (h : (A.take j).find? (ansB n k) = none) (hj : A.length ≤ j) : fst0 (jAns n k A) p = p := by
  rw [jAns, fnd_none h hj]; rfl
theorem jr_ali {n : Bs} {A : List Rc} {j : Nat} {x : Rc} (p : Int × Bs) (h : (A.take j).find? (aliB n) = none) (hx : A[j]? = some x) (hp : aliB n x = true) : fst0 (jAli n A) p = (5, fold (phN 5 x.d)) := by
  rw [jAli, (fnd_hit h hx hp).1, (fnd_hit h hx hp).2]; rfl
theorem jr_ali0 {n : Bs} {A : List Rc} {j : Nat} (p : Int × Bs) (h : (A.take j).find? (aliB n) = none) (hj : A.length ≤ j) : fst0 (jAli n A) p = p := by
  rw [jAli, fnd_none h hj]; rfl
theorem jr_den {n : Bs} {c : Int} {A : List Rc} {j : Nat} {x : Rc} (p : Int × Bs) (h : (A.take j).find? (denB n) = none) (hx : A[j]? = some x) (hp : denB n x = true) : fst0 (jDen n c A) p = (if c = 3 then 3 else 2, fold x.nm) := by
  rw [jDen, (fnd_hit h hx hp).1, (fnd_hit h hx hp).2]
  by_cases hc : c = 3 <;> simp [fst0, hc]
theorem jr_den0 {n : Bs} {c : Int} {A : List Rc} {j : Nat} (p : Int × Bs) (h : (A.take j).find? (denB n) = none) (hj : A.length ≤ j) : fst0 (jDen n c A) p = p := by
  rw [jDen, fnd_none h hj]; rfl
/-- the best one so far, as the document keeps it -/
def BestD (b : Option Bs) (x : Bs) (f : Bool) : Prop := (b = none ∧ x = [] ∧ f = false) ∨ (b = some x ∧ f = true)
theorem BestD.deep {b : Option Bs} {x : Bs} {f : Bool} (h : BestD b x f) (F : Bs) : deepB b F = (!f || decide (((cutL x).length : Int) < ((cutL F).length : Nat))) := by
  rcases h with ⟨rfl, rfl, rfl⟩ | ⟨rfl, rfl⟩
  · rfl
  · rw [deepB, Bool.not_true, Bool.false_or]; exact decide_eq_decide.2 (by omega)
structure RW (w W : World) (B : Nat) (n : Bs) (k : Int) (mc : Array Value) (a2 : Option Addr) (A : List Rc) (a3 : Option Addr) (N : List Rc) : Prop where
  q : JQ W B n k
  m : W.heap[B + 1]? = some (.cells mc 25 (0, 0))
  ra : RsR W a2 A
  rn : RsR W a3 N
  u : Upd0 w W
theorem RW.up {w W W' : World} {B : Nat} {n : Bs} {k : Int} {mc : Array Value} {a2 : Option Addr} {A : List Rc} {a3 : Option Addr} {N : List Rc} (h : RW w W B n k mc a2 A a3 N) (k' : Upd0 W W') : RW w W' B n k mc a2 A a3 N :=
  ⟨k'.block (fun h => h) h.q, k'.block (fun h => h) h.m, h.ra.up k', h.rn.up k', h.u.tr k'⟩
end Go.Proofs.Ytijmbpokglohbaa
