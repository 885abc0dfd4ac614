/-
  Records, questions and messages, as they are read: plain definitions.
-/
import Derived.Test.YtgdejgfmhndbhaaDeD
namespace Go.Proofs.Ytgdejgfmhndbhaa
set_option linter.unusedSimpArgs false
set_option linter.unusedVariables false
/-! ### records and messages, as they are read: plain definitions -/
def qhN (s : Bs) (r : Rk) : Bs := (naR s r).1
def qhA (s : Bs) (r : Rk) : Rk := (naR s r).2
def qhT (s : Bs) (r : Rk) : Nat := nuN s (qhA s r) 2
def qhB (s : Bs) (r : Rk) : Rk := nuR s (qhA s r) 2
def qhC (s : Bs) (r : Rk) : Nat := nuN s (qhB s r) 2
def qhR (s : Bs) (r : Rk) : Rk := nuR s (qhB s r) 2
def opN (s : Bs) (r3 : Rk) : Nat := nuN s r3 4
def opA (s : Bs) (r3 : Rk) : Rk := nuR s r3 4
def opK (s : Bs) (r3 : Rk) : Nat := nuN s (opA s r3) 2
def opB (s : Bs) (r3 : Rk) : Rk := nuR s (opA s r3) 2
def opOk (last : Bool) (i n : Nat) (nm : Bs) (cl tt k : Nat) : Bool := last && (decide (i + 1 = n) && (decide (nm = []) && (decide (512 ≤ cl) && (decide (tt = 0) && decide (k = 0)))))
def reW (s : Bs) (cl : Nat) (r3 : Rk) : Rk := r3.want (decide (cl = 1)) 2
def reT (s : Bs) (r4 : Rk) : Nat := nuN s r4 4
def reA (s : Bs) (r4 : Rk) : Rk := nuR s r4 4
def reK (s : Bs) (r4 : Rk) : Nat := nuN s (reA s r4) 2
def reB (s : Bs) (r4 : Rk) : Rk := nuR s (reA s r4) 2
def reC (nm : Bs) (ty : Nat) (s : Bs) (r4 : Rk) : Rc := ⟨nm, ty, reT s r4, daS s (reB s r4) ty (reK s r4)⟩
def reD (ty : Nat) (s : Bs) (r4 : Rk) : Rk := daR s (reB s r4) ty (reK s r4)
def reE (i : Nat) (nm : Bs) (ty : Nat) (s : Bs) (r4 : Rk) : Rk := (reD ty s r4).want (decide (i < 200) && (reC nm ty s r4).ok) 2
def rcF (s : Bs) (last : Bool) (n : Nat) : Nat → Nat → Rk → List Rc → (List Rc × Nat) × Rk
  | 0, i, r, l => ((l, 0), r)
  | f + 1, i, r, l =>
    if r.e = 0 then
      if qhT s r = 41 ∧ (qhR s r).e = 0 then ((l, qhC s r), (opB s (qhR s r)).want (opOk last i n (qhN s r) (qhC s r) (opN s (qhR s r)) (opK s (qhR s r))) 2)
      else rcF s last n f (i + 1) (reE i (qhN s r) (qhT s r) s (reW s (qhC s r) (qhR s r))) (l ++ [reC (qhN s r) (qhT s r) s (reW s (qhC s r) (qhR s r))])
    else ((l, 0), r)
def rcW (last : Bool) (n : Nat) (r : Rk) : Rk := r.want (decide (n ≤ 200 + b2n last 1)) 2
def rcR (s : Bs) (r : Rk) (n : Nat) (last : Bool) : (List Rc × Nat) × Rk := rcF s last n n 0 (rcW last n r) []
def quK (s : Bs) (r : Rk) : Rk := (qhR s r).want (decide (qhC s r = 1) && Qn.ok ⟨qhN s r, qhT s r⟩) 2
def quF (s : Bs) : Nat → Rk → List Qn → List Qn × Rk
  | 0, r, l => (l, r)
  | f + 1, r, l => if r.e = 0 then quF s f (quK s r) (l ++ [⟨qhN s r, qhT s r⟩]) else (l, r)
def nuI (s : Bs) (r : Rk) : Nat → Rk
  | 0 => r
  | k + 1 => nuR s (nuI s r k) 2
def dcF (s : Bs) : Nat := nuN s (nuI s ⟨0, 0⟩ 1) 2
def dcW (s : Bs) : Rk := (nuI s ⟨0, 0⟩ 2).want (decide (dcF s / 16 % 8 = 0)) 2
def dcN (s : Bs) (k : Nat) : Nat := nuN s (nuI s (dcW s) k) 2
def dcH (s : Bs) : Rk := (nuI s (dcW s) 4).want (decide (dcN s 0 ≤ 10)) 2
def dcQ (s : Bs) : List Qn × Rk := quF s (dcN s 0) (dcH s) []
def dcA (s : Bs) : (List Rc × Nat) × Rk := rcR s (dcQ s).2 (dcN s 1) false
def dcU (s : Bs) : (List Rc × Nat) × Rk := rcR s (dcA s).2 (dcN s 2) false
def dcX (s : Bs) : (List Rc × Nat) × Rk := rcR s (dcU s).2 (dcN s 3) true
def dcG (s : Bs) : Msg := ⟨nuN s ⟨0, 0⟩ 2, decide (32768 ≤ dcF s), (dcF s / 2048 % 16 : Nat), decide (dcF s / 1024 % 2 = 1), decide (dcF s / 512 % 2 = 1), decide (dcF s / 256 % 2 = 1), decide (dcF s / 128 % 2 = 1), (dcF s % 16 : Nat), (dcQ s).1, (dcA s).1.1, (dcU s).1.1, (dcX s).1.1, (dcX s).1.2⟩
def dcE (s : Bs) : Rk := (dcX s).2.want (decide ((dcX s).2.p = s.length)) 2
end Go.Proofs.Ytgdejgfmhndbhaa
