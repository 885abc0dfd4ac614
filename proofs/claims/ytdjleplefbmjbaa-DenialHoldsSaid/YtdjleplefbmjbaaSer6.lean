/-
  A region of drawn order in which one operation may stand ahead of a call or behind it: two walks, in each of which the call is marked.
-/
import Derived.Test.YtdjleplefbmjbaaSer3
namespace Go.Proofs.Ytdjleplefbmjbaa
set_option linter.unusedSimpArgs false
set_option linter.unusedVariables false
section
variable {P : Program} {Q : Exit → Act → World → Prop}
theorem wp_serial6 (n : Nat) (is : List Nat) (x k : Nat) (s1 : List Nat) (last : List Nat) (t1 : List Nat) (lastt : List Nat) {id : Nat} {a : Act} {w : World} {l : List Oper} (l1 : List Oper) (c1 : Oper) (lL m1 mL : List Oper) (hm : P.follows .mixedOrders = true)
    (hB : (([k].all (· != x) && serial3 P l.toArray [(k, x)] n is [(s1, k)] last) && serial3 P l.toArray [(x, k)] n is [(t1, k)] lastt) = true) (h1 : s1.map (l.toArray[·]?) = l1.map some) (hc1 : l.toArray[k]? = some c1) (hL : last.map (l.toArray[·]?) = lL.map some)
    (g1 : t1.map (l.toArray[·]?) = m1.map some) (gL : lastt.map (l.toArray[·]?) = mL.map some)
    (hI : KnowsI n is a) (hb : NoBad Q)
    (h : wpList P l.toArray (Exit.then (fun a1 w1 => wpList P l.toArray (Exit.then (fun a2 w2 => Ext w1 w2 ∧ wpList P l.toArray Q lL a2 w2) Q) [c1] a1 w1) Q) l1 a w.drew)
    (h' : wpList P l.toArray (Exit.then (fun a1 w1 => wpList P l.toArray (Exit.then (fun a2 w2 => Ext w1 w2 ∧ wpList P l.toArray Q mL a2 w2) Q) [c1] a1 w1) Q) m1 a w.drew) : (Code.region id l.toArray true).wp P Q a w := by
  simp only [Bool.and_eq_true] at hB
  obtain ⟨⟨h0, h2⟩, h3⟩ := hB
  refine wp_places x [k] hm h0 fun d hd => ?_
  simp only [places, List.nil_append, List.mem_cons, List.not_mem_nil, or_false] at hd
  rcases hd with rfl | rfl
  · exact serial3_any n is [(s1, k)] last [(l1, c1)] lL h2 (by simp only [List.map_cons, List.map_nil, h1, hc1]) hL (hI.of_tmps rfl) hb h
  · exact serial3_any n is [(t1, k)] lastt [(m1, c1)] mL h3 (by simp only [List.map_cons, List.map_nil, g1, hc1]) gL (hI.of_tmps rfl) hb h'
end
end Go.Proofs.Ytdjleplefbmjbaa
