/-
  Regions in a fence: the orders of a region without calls.
-/
import Derived.Test.YtdjleplefbmjbaaSer3
import Derived.OrdersIn
import Derived.Test.YtdjleplefbmjbaaRng
namespace Go.Proofs.Ytdjleplefbmjbaa
open Go.RowKit
set_option linter.unusedSimpArgs false
set_option linter.unusedVariables false
section
variable {F : Fence} {n : Nat} {P : Program} {Q : Exit → Act → World → Prop} {ops : Array Oper}
def plainOp (P : Program) (o : Op) : Bool := (match o with | .store .. => true | _ => meekOp P o) && (match o with | .call .. => false | _ => true)
def Plain (r : Result Next) : Prop := ∀ x w', r = .ok x w' → (∃ v, x = .value v) ∨ x = .skip
theorem plain_exec {ρ : Operand → Value} {o : Oper} (h : plainOp P o.op = true) (w : World) : Plain ((execOp ρ o).run P w) := by
  intro x w' hx
  simp only [plainOp, Bool.and_eq_true] at h
  cases ho : o.op <;> rw [ho] at h <;> first
    | (simp only [execOp, ho] at hx
       obtain ⟨y, w1, h1, h2⟩ := ok_bind hx
       simp at h2
       exact .inr h2.1.symm)
    | exact .inl (meekEx_op ρ o (by rw [ho]; exact h.1) _ _ _ hx).2
theorem upon_in {o : Oper} {a : Act} {K K' : Act → World → Prop} (hK : ∀ a w, K a w → K' a w) {r : Result Next} (hp : Plain r) (h : o.upon P a K Q r) : o.uponIn F n P a K' Q r := by
  cases r with
  | ok x w' =>
    rcases hp x w' rfl with ⟨v, rfl⟩ | rfl
    · exact hK _ _ h
    · exact hK _ _ h
  | halt x w' => cases x <;> first | exact h | exact h.elim
theorem wpOpsIn_of (hb : NoBad Q) : ∀ (l : List Nat) (a : Act) (w : World), (∀ (i : Nat) (o : Oper), ops[i]? = some o → plainOp P o.op = true) → wpOps P ops Q l a w → wpOpsIn F n P ops Q l a w
  | [], a, w, _, h => h
  | i :: l, a, w, hp, h => by
    simp only [wpOps, wpOpsIn] at h ⊢
    cases ho : ops[i]? with
    | none => rw [ho] at h; exact wpOpsIn_of hb l a w hp h
    | some o =>
      rw [ho] at h
      simp only [] at h ⊢
      have hpo := hp i o ho
      have hc : ∀ c, o.op ≠ .call c := fun c hc => by rw [hc] at hpo; simp [plainOp] at hpo
      have hab : ∀ f, o.about P w a.eval = some f → F.fn f := fun f hf => by
        unfold Oper.about at hf
        cases hoo : o.op <;> rw [hoo] at hf <;> first | exact absurd hoo (hc _) | cases hf
      split
      · rename_i hw
        rw [if_pos hw] at h
        have h := h.resolve_right (fun h => hb.lets h.2)
        refine ⟨hab, ?_⟩
        rw [Oper.semAt_eq _ _ _ (fun c h => by rw [h] at hpo; simp [plainOp, meekOp, pureOp, readOp] at hpo)]
        exact upon_in (fun a w h => wpOpsIn_of hb l a w hp h) (plain_exec hpo w) h
      · rename_i hw
        rw [if_neg hw] at h
        exact ⟨hab, wpOpsIn_of hb l _ w hp h⟩
theorem wpIn_serial3 (m : Nat) (is last : List Nat) {id : Nat} {a : Act} {w : World} {l : List Oper} (lL : List Oper) (hm : P.follows .mixedOrders = true)
    (hB : serial3 P l.toArray [] m is [] last = true) (hL : last.map (l.toArray[·]?) = lL.map some)
    (hI : KnowsI m is a) (hb : NoBad Q) (hp : l.all (fun o => plainOp P o.op) = true) (h : wpList P l.toArray Q lL a w.drew) : (Code.region id l.toArray true).wpIn F n P Q a w := by
  refine wpIn_region_draw fun t => ?_
  simp only [Region.schedule, hm, Bool.true_or, if_true]
  refine wpOpsIn_of hb _ _ _ (fun i o ho => List.all_eq_true.1 hp o (by simpa using List.mem_of_getElem? (by simpa using ho))) ?_
  change wpOps P l.toArray Q (Region.linearise.go .any l.toArray l.toArray.size t (Array.replicate l.toArray.size false) []) a w.drew
  exact wpAnyC_sound _ t _ _ _ (obeys_nil _ _) (serial3_any m is [] last [] lL hB rfl hL (hI.of_tmps rfl) hb h)
theorem wpIn_places (x : Nat) (cs : List Nat) {id : Nat} {a : Act} {w : World} {l : List Oper} (hm : P.follows .mixedOrders = true) (hx : cs.all (· != x) = true) (hb : NoBad Q) (hp : l.all (fun o => plainOp P o.op) = true)
    (h : ∀ d ∈ places x cs [], wpAnyC P .any l.toArray Q d l.toArray.size (Array.replicate l.toArray.size false) a w.drew) : (Code.region id l.toArray true).wpIn F n P Q a w := by
  refine wpIn_region_draw fun t => ?_
  simp only [Region.schedule, hm, Bool.true_or, if_true]
  refine wpOpsIn_of hb _ _ _ (fun i o ho => List.all_eq_true.1 hp o (by simpa using List.mem_of_getElem? (by simpa using ho))) ?_
  change wpOps P l.toArray Q (Region.linearise.go .any l.toArray l.toArray.size t (Array.replicate l.toArray.size false) []) a w.drew
  have hlt := lin_lt (md := .any) (ops := l.toArray) l.toArray.size t (Array.replicate l.toArray.size false) (by simp)
  obtain ⟨d, hd, h2⟩ := places_all x cs [] _ (Array.replicate l.toArray.size false) (fun k hk => by have := List.all_eq_true.1 hx k hk; simp at this; exact Ne.symm this) (fun i hi => by simpa using hlt i hi) (obeys_nil (Region.linearise.go .any l.toArray l.toArray.size t (Array.replicate l.toArray.size false) []) _)
  exact wpAnyC_sound _ t _ _ _ h2 (h d hd)
theorem wpIn_serial4 (m : Nat) (is : List Nat) (x : Nat) (cs : List Nat) (ords : List (List Nat)) {id : Nat} {a : Act} {w : World} {l : List Oper} (lS : List (List Oper)) (hm : P.follows .mixedOrders = true)
    (hB : (cs.all (· != x) && (ords.length == (places x cs []).length) && ((places x cs []).zip ords).all fun p => serial3 P l.toArray p.1 m is [] p.2) = true) (hS : ords.map (fun o => o.map (l.toArray[·]?)) = lS.map (fun s => s.map some))
    (hI : KnowsI m is a) (hb : NoBad Q) (hp : l.all (fun o => plainOp P o.op) = true) (h : wpAll P l.toArray Q a w.drew lS) : (Code.region id l.toArray true).wpIn F n P Q a w := by
  simp only [Bool.and_eq_true, beq_iff_eq] at hB
  obtain ⟨⟨h1, h2⟩, h3⟩ := hB
  refine wpIn_places x cs hm h1 hb hp ?_
  generalize places x cs [] = ds at h2 h3 ⊢
  induction ds generalizing ords lS with
  | nil => intro d hd; cases hd
  | cons d ds ih =>
    match ords, h2 with
    | o :: ords, h2 =>
      match lS, hS with
      | l1 :: lS, hS =>
        simp only [List.map_cons, List.cons.injEq] at hS
        simp only [List.zip_cons_cons, List.all_cons, Bool.and_eq_true] at h3
        intro d' hd'
        rcases List.mem_cons.1 hd' with rfl | hd'
        · exact serial3_any m is [] o [] l1 h3.1 rfl hS.1 (hI.of_tmps rfl) hb h.1
        · exact ih ords lS hS.2 h.2 (by simpa using h2) h3.2 d' hd'
theorem NoBad.cell {α : Type} {cb d : Nat} {I : List α → World → Prop} {Ix : Code → List α → World → Prop} {xs : List α} {W : World} : NoBad (cellPost cb d I Ix xs W) := ⟨fun _ _ _ h => h, fun _ _ h => h⟩
end
end Go.Proofs.Ytdjleplefbmjbaa
