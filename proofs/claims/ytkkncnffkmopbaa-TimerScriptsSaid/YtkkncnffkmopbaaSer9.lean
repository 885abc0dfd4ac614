/-
  A region that draws, with an alloc p, its reader q, and a call j beside both: walked three times.
-/
import Derived.Test.YtkkncnffkmopbaaSer2
namespace Go.Proofs.Ytkkncnffkmopbaa
namespace S9
set_option linter.unusedSimpArgs false
set_option linter.unusedVariables false
section
variable {P : Program} {md : Region.Mode} {ops : Array Oper} {Q : Exit → Act → World → Prop}
theorem mayC_app (c c' : List (Nat × Nat)) (L : Array Bool) (m : Nat) : mayC (c ++ c') L m = (mayC c L m && mayC c' L m) := by simp [mayC, List.all_append]
theorem obeys_app (c c' : List (Nat × Nat)) : ∀ (l : List Nat) (L : Array Bool), obeys (c ++ c') L l = (obeys c L l && obeys c' L l)
  | [], _ => rfl
  | i :: l, L => by
    simp only [obeys, mayC_app, obeys_app c c' l]
    cases mayC c L i <;> cases mayC c' L i <;> simp
/-- what follows from c by what waits for what -/
def liftOk (md : Region.Mode) (ops : Array Oper) (c c' : List (Nat × Nat)) : Bool := c'.all fun p => c.contains p || c.any fun q => q.1 == p.1 && match ops[q.2]? with
  | some o => o.after.toList.any fun e => Region.binds md e && e.on == p.2
  | none => false
def ListedOk (md : Region.Mode) (ops : Array Oper) (L : Array Bool) : Prop := ∀ z oz, ops[z]? = some oz → L.getD z false = true → ∀ e ∈ oz.after, Region.binds md e = true → L.getD e.on false = true
theorem mayC_lift {c c' : List (Nat × Nat)} (h : liftOk md ops c c' = true) {L : Array Bool} (hL : ListedOk md ops L) {m : Nat} (hm : mayC c L m = true) : mayC c' L m = true := by
  simp only [mayC, List.all_eq_true, Bool.or_eq_true, Bool.not_eq_true', beq_eq_false_iff_ne] at hm ⊢
  simp only [liftOk, List.all_eq_true, Bool.or_eq_true, List.contains_iff_mem, List.any_eq_true, Bool.and_eq_true, beq_iff_eq] at h
  intro p hp
  by_cases hmp : m = p.1
  · right
    rcases h p hp with h1 | ⟨q, hq, e1, h1⟩
    · exact (hm p h1).resolve_left (fun k => k hmp)
    · have h2 := (hm q hq).resolve_left (fun k => k (by rw [e1]; exact hmp))
      cases ho : ops[q.2]? with
      | none => rw [ho] at h1; cases h1
      | some o =>
        rw [ho] at h1
        simp only [List.any_eq_true, Bool.and_eq_true, beq_iff_eq] at h1
        obtain ⟨e, he, hb, he2⟩ := h1
        rw [← he2]
        exact hL q.2 o ho h2 e (by simpa using he) hb
  · exact .inl hmp
theorem listed_set {L : Array Bool} (hL : ListedOk md ops L) {i : Nat} (hi : i ∈ Region.ready md ops L) : ListedOk md ops (L.setIfInBounds i true) := by
  intro z oz hz hl e he hb
  have up : ∀ k, L.getD k false = true → (L.setIfInBounds i true).getD k false = true := fun k hk => by
    by_cases hik : i = k
    · subst hik
      have : i < L.size := by
        rcases Nat.lt_or_ge i L.size with h' | h'
        · exact h'
        · simp [Array.getElem?_eq_none h'] at hk
      simp [this]
    · rw [getD_set_ne false hik]; exact hk
  obtain ⟨_, oi, hoi, hall⟩ := mem_ready.1 hi
  by_cases hiz : i = z
  · subst hiz
    rw [hoi] at hz
    injection hz with hz
    subst hz
    exact up _ (hall e he hb)
  · rw [getD_set_ne false hiz] at hl
    exact up _ (hL z oz hz hl e he hb)
theorem obeys_lift {c c' : List (Nat × Nat)} (h : liftOk md ops c c' = true) : ∀ (fuel t : Nat) (L : Array Bool), ListedOk md ops L → obeys c L (Region.linearise.go md ops fuel t L []) = true → obeys c' L (Region.linearise.go md ops fuel t L []) = true := by
  intro fuel
  induction fuel with
  | zero => intro t L _ _; simp [Region.linearise.go, obeys]
  | succ fuel ih =>
    intro t L hL ho
    simp only [Region.linearise.go] at ho ⊢
    split
    · rename_i i hi
      rw [hi] at ho
      simp only [] at ho
      have hri := List.mem_of_getElem? hi
      rw [linearise_go_acc, List.reverse_singleton, List.singleton_append] at ho ⊢
      simp only [obeys, Bool.and_eq_true] at ho ⊢
      exact ⟨mayC_lift h hL ho.1, ih _ _ (listed_set hL hri) ho.2⟩
    · rfl
def caseOk (P : Program) (ops : Array Oper) (c c' : List (Nat × Nat)) (ord : List Nat) : Bool :=
  liftOk .any ops c c' && serialC P .any ops c' ord (Array.replicate ops.size false) && ord.all (fun i => decide (i < ops.size)) && ord.length == ops.size
theorem one_case {c c' : List (Nat × Nat)} {ord : List Nat} {l : List Oper} {a : Act} {w : World} (lB : List Oper) (hs : Region.noSelect l.toArray = true) (hB : caseOk P l.toArray c c' ord = true) (hlB : ord.filterMap (l.toArray[·]?) = lB) (hb : NoBad Q)
    (h2 : wpList P l.toArray Q lB a w) (t : Nat) (h : obeys c (Array.replicate l.toArray.size false) (Region.linearise.go .any l.toArray l.toArray.size t (Array.replicate l.toArray.size false) []) = true) :
    wpOps P l.toArray Q (Region.linearise.go .any l.toArray l.toArray.size t (Array.replicate l.toArray.size false) []) a w := by
  simp only [caseOk, Bool.and_eq_true, beq_iff_eq] at hB
  obtain ⟨⟨⟨hL, hBB⟩, hin⟩, hlen⟩ := hB
  have hall : ∀ i ∈ ord, i < l.toArray.size := fun i hi => by simpa using List.all_eq_true.1 hin i hi
  have hmap : lB = ord.map fun i => (l.toArray[i]?).getD ⟨none, .move (.tmp 0), 0, "", #[], none⟩ := by
    rw [← hlB]
    exact filterMap_all _ _ _ (fun i hi => by simp [Array.getElem?_eq_getElem (hall i hi)])
  have h2' : wpOps P l.toArray Q ord a w := by
    refine wpOps_perm _ lB (fun i => ?_) (by rw [hmap, List.length_map]) a w h2
    rw [hmap, List.getElem?_map]
    cases hi : ord[i]? with
    | none => rfl
    | some m =>
      have hm' : m < l.length := by simpa using hall m (List.mem_of_getElem? hi)
      simp [hm']
  have h3 := serialC_lex hb hs _ _ a w hBB h2'
  rw [hlen] at h3
  refine wpAnyC_sound _ t _ _ _ (obeys_lift hL _ _ _ ?_ h) h3
  intro z oz _ hz
  simp only [Array.getD_eq_getD_getElem?, Array.getElem?_replicate] at hz
  split at hz <;> simp at hz
/-- **three orders for all**: p an alloc, q its reader, j a call beside both -/
theorem wp_serial9 (p q j : Nat) (c1 : List (Nat × Nat)) (o1 o2 o3 : List Nat) {id : Nat} {a : Act} {w : World} {l : List Oper} (l1 l2 l3 : List Oper) (hm : P.follows .mixedOrders = true)
    (hB : (Region.noSelect l.toArray && decide (p ≠ j) && decide (q ≠ j) && caseOk P l.toArray [(j, q)] c1 o1 && caseOk P l.toArray ([(q, j)] ++ [(p, j)]) [(q, j), (p, j)] o2 && caseOk P l.toArray ([(q, j)] ++ [(j, p)]) [(q, j), (j, p)] o3) = true)
    (e1 : o1.filterMap (l.toArray[·]?) = l1) (e2 : o2.filterMap (l.toArray[·]?) = l2) (e3 : o3.filterMap (l.toArray[·]?) = l3) (hb : NoBad Q)
    (h1 : wpList P l.toArray Q l1 a w.drew) (h2 : wpList P l.toArray Q l2 a w.drew) (h3 : wpList P l.toArray Q l3 a w.drew) : (Code.region id l.toArray true).wp P Q a w := by
  simp only [Bool.and_eq_true, decide_eq_true_eq] at hB
  obtain ⟨⟨⟨⟨⟨hs, hpj⟩, hqj⟩, k1⟩, k2⟩, k3⟩ := hB
  refine wp_region_draw fun t => ?_
  simp only [Region.schedule, hm, Bool.true_or, if_true]
  change wpOps P l.toArray Q (Region.linearise.go .any l.toArray l.toArray.size t (Array.replicate l.toArray.size false) []) a w.drew
  have hlt := lin_lt (md := .any) (ops := l.toArray) l.toArray.size t (Array.replicate l.toArray.size false) (by simp)
  have hin : ∀ i ∈ Region.linearise.go .any l.toArray l.toArray.size t (Array.replicate l.toArray.size false) [], i < (Array.replicate l.toArray.size false).size := fun i hi => by simpa using hlt i hi
  rcases obeys_or (x := j) (y := q) (fun h => hqj h.symm) _ _ hin with h | h
  · exact one_case l1 hs k1 e1 hb h1 t h
  · rcases obeys_or (x := p) (y := j) hpj _ _ hin with h' | h'
    · exact one_case l2 hs k2 e2 hb h2 t (by rw [obeys_app, h, h']; rfl)
    · exact one_case l3 hs k3 e3 hb h3 t (by rw [obeys_app, h, h']; rfl)
/-- **four orders for all**: two pairs that may come in either order -/
theorem wp_serial22 (x y u v : Nat) (o1 o2 o3 o4 : List Nat) {id : Nat} {a : Act} {w : World} {l : List Oper} (l1 l2 l3 l4 : List Oper) (hm : P.follows .mixedOrders = true)
    (hB : (Region.noSelect l.toArray && decide (x ≠ y) && decide (u ≠ v) && caseOk P l.toArray ([(x, y)] ++ [(u, v)]) [(x, y), (u, v)] o1 && caseOk P l.toArray ([(x, y)] ++ [(v, u)]) [(x, y), (v, u)] o2 && caseOk P l.toArray ([(y, x)] ++ [(u, v)]) [(y, x), (u, v)] o3 && caseOk P l.toArray ([(y, x)] ++ [(v, u)]) [(y, x), (v, u)] o4) = true)
    (e1 : o1.filterMap (l.toArray[·]?) = l1) (e2 : o2.filterMap (l.toArray[·]?) = l2) (e3 : o3.filterMap (l.toArray[·]?) = l3) (e4 : o4.filterMap (l.toArray[·]?) = l4) (hb : NoBad Q)
    (h1 : wpList P l.toArray Q l1 a w.drew) (h2 : wpList P l.toArray Q l2 a w.drew) (h3 : wpList P l.toArray Q l3 a w.drew) (h4 : wpList P l.toArray Q l4 a w.drew) : (Code.region id l.toArray true).wp P Q a w := by
  simp only [Bool.and_eq_true, decide_eq_true_eq] at hB
  obtain ⟨⟨⟨⟨⟨⟨hs, hxy⟩, huv⟩, k1⟩, k2⟩, k3⟩, k4⟩ := hB
  refine wp_region_draw fun t => ?_
  simp only [Region.schedule, hm, Bool.true_or, if_true]
  change wpOps P l.toArray Q (Region.linearise.go .any l.toArray l.toArray.size t (Array.replicate l.toArray.size false) []) a w.drew
  have hlt := lin_lt (md := .any) (ops := l.toArray) l.toArray.size t (Array.replicate l.toArray.size false) (by simp)
  have hin : ∀ i ∈ Region.linearise.go .any l.toArray l.toArray.size t (Array.replicate l.toArray.size false) [], i < (Array.replicate l.toArray.size false).size := fun i hi => by simpa using hlt i hi
  rcases obeys_or (x := x) (y := y) hxy _ _ hin with h | h
  · rcases obeys_or (x := u) (y := v) huv _ _ hin with h' | h'
    · exact one_case l1 hs k1 e1 hb h1 t (by rw [obeys_app, h, h']; rfl)
    · exact one_case l2 hs k2 e2 hb h2 t (by rw [obeys_app, h, h']; rfl)
  · rcases obeys_or (x := u) (y := v) huv _ _ hin with h' | h'
    · exact one_case l3 hs k3 e3 hb h3 t (by rw [obeys_app, h, h']; rfl)
    · exact one_case l4 hs k4 e4 hb h4 t (by rw [obeys_app, h, h']; rfl)
/-- what follows from c by what an operation itself waits for -/
def liftOk2 (md : Region.Mode) (ops : Array Oper) (c c' : List (Nat × Nat)) : Bool := c'.all fun p => c.contains p || match ops[p.1]? with
  | some o => o.after.toList.any fun e => Region.binds md e && c.contains (e.on, p.2)
  | none => false
def RespC (c : List (Nat × Nat)) (L : Array Bool) : Prop := ∀ p ∈ c, L.getD p.1 false = true → L.getD p.2 false = true
theorem up_set {L : Array Bool} (i k : Nat) (hk : L.getD k false = true) : (L.setIfInBounds i true).getD k false = true := by
  by_cases hik : i = k
  · subst hik
    have : i < L.size := by
      rcases Nat.lt_or_ge i L.size with h' | h'
      · exact h'
      · simp [Array.getElem?_eq_none h'] at hk
    simp [this]
  · rw [getD_set_ne false hik]; exact hk
theorem obeys_lift2 {c c' : List (Nat × Nat)} (h : liftOk2 md ops c c' = true) : ∀ (fuel t : Nat) (L : Array Bool), ListedOk md ops L → RespC c L → obeys c L (Region.linearise.go md ops fuel t L []) = true → obeys c' L (Region.linearise.go md ops fuel t L []) = true := by
  intro fuel
  induction fuel with
  | zero => intro t L _ _; simp [Region.linearise.go, obeys]
  | succ fuel ih =>
    intro t L hL hR ho
    simp only [Region.linearise.go] at ho ⊢
    split
    · rename_i i hi
      rw [hi] at ho
      simp only [] at ho
      have hri := List.mem_of_getElem? hi
      rw [linearise_go_acc, List.reverse_singleton, List.singleton_append] at ho ⊢
      simp only [obeys, Bool.and_eq_true] at ho ⊢
      obtain ⟨hm, ho⟩ := ho
      have hm2 := hm
      simp only [mayC, List.all_eq_true, Bool.or_eq_true, Bool.not_eq_true', beq_eq_false_iff_ne] at hm2
      refine ⟨?_, ih _ _ (listed_set hL hri) (fun p hp hl => ?_) ho⟩
      · simp only [mayC, List.all_eq_true, Bool.or_eq_true, Bool.not_eq_true', beq_eq_false_iff_ne]
        intro p hp
        by_cases hmp : i = p.1
        · right
          simp only [liftOk2, List.all_eq_true, Bool.or_eq_true, List.contains_iff_mem] at h
          rcases h p hp with h1 | h1
          · exact (hm2 p h1).resolve_left (fun k => k hmp)
          · obtain ⟨_, oi, hoi, hall⟩ := mem_ready.1 hri
            rw [← hmp, hoi] at h1
            simp only [List.any_eq_true, Bool.and_eq_true, List.contains_iff_mem] at h1
            obtain ⟨e, he, hb, he2⟩ := h1
            exact hR (e.on, p.2) he2 (hall e (by simpa using he) hb)
        · exact .inl hmp
      · by_cases hip : i = p.1
        · exact up_set _ _ ((hm2 p hp).resolve_left (fun k => k hip))
        · rw [getD_set_ne false hip] at hl
          exact up_set _ _ (hR p hp hl)
    · rfl
/-- **four orders for all**: r ahead of p, p an alloc, q its reader, j a call beside all three -/
theorem wp_serial10 (r p q j : Nat) (o1 o2 o3 o4 : List Nat) {id : Nat} {a : Act} {w : World} {l : List Oper} (l1 l2 l3 l4 : List Oper) (hm : P.follows .mixedOrders = true)
    (hB : (Region.noSelect l.toArray && decide (p ≠ j) && decide (q ≠ j) && decide (r ≠ j) && caseOk P l.toArray ([(j, r)] ++ [(j, q)]) [(j, r), (j, q), (j, p)] o1 && caseOk P l.toArray ([(j, r)] ++ ([(q, j)] ++ [(p, j)])) [(j, r), (q, j), (p, j)] o2 && caseOk P l.toArray ([(j, r)] ++ ([(q, j)] ++ [(j, p)])) [(j, r), (q, j), (j, p)] o3
      && liftOk2 .any l.toArray [(r, j)] [(r, j), (p, j)] && liftOk2 .any l.toArray [(r, j), (p, j)] [(r, j), (p, j), (q, j)] && caseOk P l.toArray [(r, j), (p, j), (q, j)] [(r, j), (p, j), (q, j)] o4) = true)
    (e1 : o1.filterMap (l.toArray[·]?) = l1) (e2 : o2.filterMap (l.toArray[·]?) = l2) (e3 : o3.filterMap (l.toArray[·]?) = l3) (e4 : o4.filterMap (l.toArray[·]?) = l4) (hb : NoBad Q)
    (h1 : wpList P l.toArray Q l1 a w.drew) (h2 : wpList P l.toArray Q l2 a w.drew) (h3 : wpList P l.toArray Q l3 a w.drew) (h4 : wpList P l.toArray Q l4 a w.drew) : (Code.region id l.toArray true).wp P Q a w := by
  simp only [Bool.and_eq_true, decide_eq_true_eq] at hB
  obtain ⟨⟨⟨⟨⟨⟨⟨⟨⟨hs, hpj⟩, hqj⟩, hrj⟩, k1⟩, k2⟩, k3⟩, k4a⟩, k4b⟩, k4⟩ := hB
  refine wp_region_draw fun t => ?_
  simp only [Region.schedule, hm, Bool.true_or, if_true]
  change wpOps P l.toArray Q (Region.linearise.go .any l.toArray l.toArray.size t (Array.replicate l.toArray.size false) []) a w.drew
  have hlt := lin_lt (md := .any) (ops := l.toArray) l.toArray.size t (Array.replicate l.toArray.size false) (by simp)
  have hin : ∀ i ∈ Region.linearise.go .any l.toArray l.toArray.size t (Array.replicate l.toArray.size false) [], i < (Array.replicate l.toArray.size false).size := fun i hi => by simpa using hlt i hi
  have hL0 : ListedOk .any l.toArray (Array.replicate l.toArray.size false) := by
    intro z oz _ hz
    simp only [Array.getD_eq_getD_getElem?, Array.getElem?_replicate] at hz
    split at hz <;> simp at hz
  have hR0 : ∀ c : List (Nat × Nat), RespC c (Array.replicate l.toArray.size false) := by
    intro c z _ hz
    simp only [Array.getD_eq_getD_getElem?, Array.getElem?_replicate] at hz
    split at hz <;> simp at hz
  rcases obeys_or (x := j) (y := r) (fun h => hrj h.symm) _ _ hin with h0 | h0
  · rcases obeys_or (x := j) (y := q) (fun h => hqj h.symm) _ _ hin with h | h
    · exact one_case l1 hs k1 e1 hb h1 t (by rw [obeys_app, h0, h]; rfl)
    · rcases obeys_or (x := p) (y := j) hpj _ _ hin with h' | h'
      · exact one_case l2 hs k2 e2 hb h2 t (by rw [obeys_app, obeys_app, h0, h, h']; rfl)
      · exact one_case l3 hs k3 e3 hb h3 t (by rw [obeys_app, obeys_app, h0, h, h']; rfl)
  · exact one_case l4 hs k4 e4 hb h4 t (obeys_lift2 k4b _ _ _ hL0 (hR0 _) (obeys_lift2 k4a _ _ _ hL0 (hR0 _) h0))
end
end S9
end Go.Proofs.Ytkkncnffkmopbaa
