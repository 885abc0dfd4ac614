/-
  A drawn region with three pairs that may come in either order: eight orders for all.
-/
import Derived.Test.YtijmbpokglohbaaKb
namespace Go.Proofs.Ytijmbpokglohbaa.S9
open Go.RowKit
set_option linter.unusedSimpArgs false
set_option linter.unusedVariables false
variable {P : Program} {Q : Exit → Act → World → Prop}
set_option maxRecDepth 100000 in
theorem wp_serial222 (x y u v p q : Nat) (o1 o2 o3 o4 o5 o6 o7 o8 : List Nat) {id : Nat} {a : Act} {w : World} {l : List Oper} (l1 l2 l3 l4 l5 l6 l7 l8 : List Oper) (hm : P.follows .mixedOrders = true)
    (hB : (Region.noSelect l.toArray && decide (x ≠ y) && decide (u ≠ v) && decide (p ≠ q) && caseOk P l.toArray ([(x, y)] ++ ([(u, v)] ++ [(p, q)])) [(x, y), (u, v), (p, q)] o1 && caseOk P l.toArray ([(x, y)] ++ ([(u, v)] ++ [(q, p)])) [(x, y), (u, v), (q, p)] o2 && caseOk P l.toArray ([(x, y)] ++ ([(v, u)] ++ [(p, q)])) [(x, y), (v, u), (p, q)] o3 && caseOk P l.toArray ([(x, y)] ++ ([(v, u)] ++ [(q, p)])) [(x, y), (v, u), (q, p)] o4 && caseOk P l.toArray ([(y, x)] ++ ([(u, v)] ++ [(p, q)])) [(y, x), (u, v), (p, q)] o5 && caseOk P l.toArray ([(y, x)] ++ ([(u, v)] ++ [(q, p)])) [(y, x), (u, v), (q, p)] o6 && caseOk P l.toArray ([(y, x)] ++ ([(v, u)] ++ [(p, q)])) [(y, x), (v, u), (p, q)] o7 && caseOk P l.toArray ([(y, x)] ++ ([(v, u)] ++ [(q, p)])) [(y, x), (v, u), (q, p)] o8) = true)
    (e1 : o1.filterMap (l.toArray[·]?) = l1) (e2 : o2.filterMap (l.toArray[·]?) = l2) (e3 : o3.filterMap (l.toArray[·]?) = l3) (e4 : o4.filterMap (l.toArray[·]?) = l4) (e5 : o5.filterMap (l.toArray[·]?) = l5) (e6 : o6.filterMap (l.toArray[·]?) = l6) (e7 : o7.filterMap (l.toArray[·]?) = l7) (e8 : o8.filterMap (l.toArray[·]?) = l8) (hb : NoBad Q)
    (w1 : wpList P l.toArray Q l1 a w.drew) (w2 : wpList P l.toArray Q l2 a w.drew) (w3 : wpList P l.toArray Q l3 a w.drew) (w4 : wpList P l.toArray Q l4 a w.drew) (w5 : wpList P l.toArray Q l5 a w.drew) (w6 : wpList P l.toArray Q l6 a w.drew) (w7 : wpList P l.toArray Q l7 a w.drew) (w8 : wpList P l.toArray Q l8 a w.drew) : (Code.region id l.toArray true).wp P Q a w := by
  simp only [Bool.and_eq_true, decide_eq_true_eq] at hB
  obtain ⟨⟨⟨⟨⟨⟨⟨⟨⟨⟨⟨hs, h1⟩, h2⟩, h3⟩, k1⟩, k2⟩, k3⟩, k4⟩, k5⟩, k6⟩, k7⟩, k8⟩ := hB
  refine wp_region_draw fun t => ?_
  simp only [Region.schedule, hm, Bool.true_or, if_true]
  change wpOps P l.toArray Q (Region.linearise.go .any l.toArray l.toArray.size t (Array.replicate l.toArray.size false) []) a w.drew
  have hlt := lin_lt (md := .any) (ops := l.toArray) l.toArray.size t (Array.replicate l.toArray.size false) (by simp)
  have hin : ∀ i ∈ Region.linearise.go .any l.toArray l.toArray.size t (Array.replicate l.toArray.size false) [], i < (Array.replicate l.toArray.size false).size := fun i hi => by simpa using hlt i hi
  rcases obeys_or (x := x) (y := y) h1 _ _ hin with g0 | g0
  · skip
    rcases obeys_or (x := u) (y := v) h2 _ _ hin with g1 | g1
    · skip
      rcases obeys_or (x := p) (y := q) h3 _ _ hin with g2 | g2
      · skip
        exact one_case l1 hs k1 e1 hb w1 t (by rw [obeys_app, obeys_app, g0, g1, g2]; rfl)
      · skip
        exact one_case l2 hs k2 e2 hb w2 t (by rw [obeys_app, obeys_app, g0, g1, g2]; rfl)
    · skip
      rcases obeys_or (x := p) (y := q) h3 _ _ hin with g2 | g2
      · skip
        exact one_case l3 hs k3 e3 hb w3 t (by rw [obeys_app, obeys_app, g0, g1, g2]; rfl)
      · skip
        exact one_case l4 hs k4 e4 hb w4 t (by rw [obeys_app, obeys_app, g0, g1, g2]; rfl)
  · skip
    rcases obeys_or (x := u) (y := v) h2 _ _ hin with g1 | g1
    · skip
      rcases obeys_or (x := p) (y := q) h3 _ _ hin with g2 | g2
      · skip
        exact one_case l5 hs k5 e5 hb w5 t (by rw [obeys_app, obeys_app, g0, g1, g2]; rfl)
      · skip
        exact one_case l6 hs k6 e6 hb w6 t (by rw [obeys_app, obeys_app, g0, g1, g2]; rfl)
    · skip
      rcases obeys_or (x := p) (y := q) h3 _ _ hin with g2 | g2
      · skip
        exact one_case l7 hs k7 e7 hb w7 t (by rw [obeys_app, obeys_app, g0, g1, g2]; rfl)
      · skip
        exact one_case l8 hs k8 e8 hb w8 t (by rw [obeys_app, obeys_app, g0, g1, g2]; rfl)
end Go.Proofs.Ytijmbpokglohbaa.S9
