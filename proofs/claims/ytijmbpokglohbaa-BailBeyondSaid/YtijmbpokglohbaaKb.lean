/-
  A region that draws, with two operations that may come in either order (a call and a load beside it): walked twice, once in each order.
  A region that draws, walked in ONE given order: sums of whole numbers are pure (their operands are known to be such); a marked operation keeps every block that stands ahead of it.
  A region that draws, walked in ONE given order: sums of whole numbers are pure (their operands are known to be such); a marked operation keeps every block that stands ahead of it.
  A region that draws, walked in ONE given order: sums of whole numbers are pure (their operands are known to be such); a marked operation keeps every block that stands ahead of it.
  A region of drawn order in which one operation x may stand anywhere beside two marked calls: three walks.
  A region of drawn order in which one operation may stand ahead of a call or behind it: two walks, in each of which the call is marked.
  Regions in a fence: the orders of a region without calls.
  A region that draws, walked in ONE given order: sums of whole numbers are pure (their operands are known to be such); a marked operation keeps every block that stands ahead of it.
  A region that draws, with an alloc p, its reader q, and a call j beside both: walked three times.
-/
import Derived.Test.YtijmbpokglohbaaKa
import Derived.OrdersIn
namespace Go.Proofs.Ytijmbpokglohbaa
set_option linter.unusedSimpArgs false
set_option linter.unusedVariables false

section
variable {P : Program} {md : Region.Mode} {ops : Array Oper} {Q : Exit → Act → World → Prop}
/-- may m come, by the rule 'each x behind its y'? -/
def mayC (c : List (Nat × Nat)) (L : Array Bool) (m : Nat) : Bool := c.all fun p => !(m == p.1) || L.getD p.2 false
theorem mayC_mono {c : List (Nat × Nat)} {L : Array Bool} {m : Nat} (j : Nat) (h : mayC c L m = true) : mayC c (L.setIfInBounds j true) m = true := by
  simp only [mayC, List.all_eq_true] at h ⊢
  intro p hp
  have := h p hp
  simp only [Bool.or_eq_true] at this ⊢
  refine orMap this id fun h1 => ?_
  by_cases hj : j = p.2
  · subst hj
    have : p.2 < L.size := by
      rcases Nat.lt_or_ge p.2 L.size with h' | h'
      · exact h'
      · simp [Array.getElem?_eq_none h'] at h1
    simp [this]
  · rw [getD_set_ne false hj]; exact h1
def wpAnyC (P : Program) (md : Region.Mode) (ops : Array Oper) (Q : Exit → Act → World → Prop) (c : List (Nat × Nat)) : Nat → Array Bool → Act → World → Prop
  | 0, listed, a, w => Region.ready md ops listed = [] ∧ Q .normal a w
  | fuel + 1, listed, a, w =>
    (Region.ready md ops listed = [] → Q .normal a w) ∧
    ∀ i ∈ Region.ready md ops listed, mayC c listed i = true → wpOp P ops Q i (wpAnyC P md ops Q c fuel (listed.setIfInBounds i true)) a w
/-- j can't come as long as i has not -/
def held (c : List (Nat × Nat)) (i j : Nat) : Bool := c.any fun p => p.1 == j && p.2 == i
theorem held_no {c : List (Nat × Nat)} {i j : Nat} {L : Array Bool} (hu : L.getD i true = false) (h : mayC c L j = true) : held c i j = false := by
  cases hh : held c i j with
  | false => rfl
  | true =>
    simp only [held, List.any_eq_true, Bool.and_eq_true, beq_iff_eq] at hh
    obtain ⟨p, hp, rfl, rfl⟩ := hh
    simp only [mayC, List.all_eq_true] at h
    have := h p hp
    simp only [beq_self_eq_true, Bool.not_true, Bool.false_or] at this
    rcases Nat.lt_or_ge p.2 L.size with h' | h'
    · simp [h'] at hu this; rw [hu] at this; cases this
    · simp [Array.getElem?_eq_none h'] at this
variable {cc : List (Nat × Nat)}
theorem wpAnyC_rd (hb : NoBad Q) {C : World → Prop} (hC : ∀ u u', C u → Ext u u' → C u') {i : Nat} {oi : Oper} {v : Value} {d : Nat → Bool} (hi : ops[i]? = some oi)
    (hsel : ∀ (j : Nat) (o : Oper) cs b, ops[j]? = some o → o.op ≠ .select cs b) (hd : Waits md ops i d) :
    ∀ (fuel : Nat) (listed : Array Bool) (a : Act) (w : World), (∀ j, d j = true → listed.getD j false = false) → (∀ j, listed.getD j true = false → j ≠ i → d j = false → held cc i j = false → ∀ oj, ops[j]? = some oj → oi.apart ops oj = true ∧ ((∀ u, C u) ∨ ∀ ρ, MeekEx P (execOp ρ oj))) →
      i ∈ Region.ready md ops listed → mayC cc listed i = true → C w → YieldsC P ops C oi v a →
      wpAnyC P md ops Q cc fuel (listed.setIfInBounds i true) (a.put oi.dst v) w → wpAnyC P md ops Q cc (fuel + 1) listed a w := by
  intro fuel
  induction fuel with
  | zero =>
    intro listed a w _ _ hr hmi hCw hy H
    refine ⟨fun h => (by rw [h] at hr; cases hr), fun j hj hcj => ?_⟩
    by_cases hji : j = i
    · subst hji; exact hy.wpOp hi hCw H
    · have := ready_mono hj hji
      rw [H.1] at this
      cases this
  | succ fuel ih =>
    intro listed a w hinv hf hr hmi hCw hy H
    refine ⟨fun h => (by rw [h] at hr; cases hr), fun j hj hcj => ?_⟩
    by_cases hji : j = i
    · subst hji; exact hy.wpOp hi hCw H
    · have h1 := H.2 j (ready_mono hj hji) (mayC_mono _ hcj)
      obtain ⟨hjun, oj, hoj, hall⟩ := mem_ready.1 hj
      have hdj := not_waits hd (mem_ready.1 hr).1 hinv hj
      obtain ⟨hap, hm⟩ := hf j hjun hji hdj (held_no (mem_ready.1 hr).1 hcj) oj hoj
      have h2 := wpOp_putC hb hC hoj hap (fun cs b => hsel i oi cs b hi) (fun cs b => hsel j oj cs b hoj) hCw (orMap hm id fun h => h _) hy h1
      refine wpOp_mono (fun a' w' h3 => ih (listed.setIfInBounds j true) a' w' (inv_set hinv hdj) (fun k hk hki hdk hhk ok hok => ?_) (ready_mono hr (Ne.symm hji)) (mayC_mono _ hmi) h3.1 h3.2.1 ?_) h2
      · by_cases hjk : j = k
        · subst hjk; exact hf j hjun hki hdk hhk ok hok
        · rw [getD_set_ne true hjk] at hk; exact hf k hk hki hdk hhk ok hok
      · rw [Array.setIfInBounds_comm _ _ hji]
        exact h3.2.2
theorem wpAnyC_eff (hb : NoBad Q) {i : Nat} {oi : Oper} {d : Nat → Bool} (hi : ops[i]? = some oi)
    (hsel : ∀ (j : Nat) (o : Oper) cs b, ops[j]? = some o → o.op ≠ .select cs b) (hd : Waits md ops i d) :
    ∀ (fuel : Nat) (listed : Array Bool) (a : Act) (w : World), (∀ j, d j = true → listed.getD j false = false) → (∀ j, listed.getD j true = false → j ≠ i → d j = false → held cc i j = false → ∀ oj, ops[j]? = some oj → oi.apart ops oj = true ∧ ∀ ρ, PureEx P (execOp ρ oj)) →
      i ∈ Region.ready md ops listed → mayC cc listed i = true →
      wpOp P ops Q i (wpAnyC P md ops Q cc fuel (listed.setIfInBounds i true)) a w → wpAnyC P md ops Q cc (fuel + 1) listed a w := by
  intro fuel
  induction fuel with
  | zero =>
    intro listed a w _ _ hr hmi H
    refine ⟨fun h => (by rw [h] at hr; cases hr), fun j hj hcj => ?_⟩
    by_cases hji : j = i
    · subst hji; exact H
    · obtain ⟨a1, w1, h1⟩ := wpOp_some hb hi H
      have := ready_mono hj hji
      rw [h1.1] at this
      cases this
  | succ fuel ih =>
    intro listed a w hinv hf hr hmi H
    refine ⟨fun h => (by rw [h] at hr; cases hr), fun j hj hcj => ?_⟩
    by_cases hji : j = i
    · subst hji; exact H
    · obtain ⟨hjun, oj, hoj, hall⟩ := mem_ready.1 hj
      have hdj := not_waits hd (mem_ready.1 hr).1 hinv hj
      obtain ⟨hap, hpu⟩ := hf j hjun hji hdj (held_no (mem_ready.1 hr).1 hcj) oj hoj
      obtain ⟨p1, p2, p3⟩ := Oper.apart_spec hap
      have H' := wpOp_tmps hb hi H
      have hsame : ∀ a1 : Act, (∃ v, a1.tmps = (a.put oi.dst v).tmps) → execOp a1.eval oj = execOp a.eval oj ∧ Region.wanted oj (yielded ops a1.tmps) = Region.wanted oj (yielded ops a.tmps) := by
        rintro a1 ⟨v, hv⟩
        have he : a1.eval = (a.put oi.dst v).eval := by funext x; cases x <;> simp only [Act.eval, hv]
        rw [he, hv]
        exact ⟨execOp_put oj (fun cs b => hsel j oj cs b hoj) a oi.dst v p1, wanted_put oj a oi.dst v p1⟩
      obtain ⟨a1, w1, h1, ht⟩ := wpOp_some hb hi H'
      obtain ⟨u, hy1, _⟩ := wpOp_pure hb hoj (hpu _) (h1.2 j (ready_mono hj hji) (mayC_mono _ hcj))
      have hy : YieldsC P ops (fun _ => True) oj u a := hy1.of_same (hsame a1 ht).1.symm (hsame a1 ht).2.symm
      refine hy.wpOp hoj trivial ?_
      refine ih (listed.setIfInBounds j true) (a.put oj.dst u) w (inv_set hinv hdj) (fun k hk hki hdk hhk ok hok => ?_) (ready_mono hr (Ne.symm hji)) (mayC_mono _ hmi) ?_
      · by_cases hjk : j = k
        · subst hjk; exact hf j hjun hki hdk hhk ok hok
        · rw [getD_set_ne true hjk] at hk; exact hf k hk hki hdk hhk ok hok
      · refine wpOp_back hb hi hap (fun cs b => hsel i oi cs b hi) (wpOp_mono (fun a2 w2 ⟨h2, ht2⟩ => ?_) H')
        obtain ⟨u', hy2, h3⟩ := wpOp_pure hb hoj (hpu _) (h2.2 j (ready_mono hj hji) (mayC_mono _ hcj))
        have hy2' : YieldsC P ops (fun _ => True) oj u' a := hy2.of_same (hsame a2 ht2).1.symm (hsame a2 ht2).2.symm
        have huu : u' = u := by
          rcases hy with ⟨hw, hv⟩ | ⟨hw, rfl⟩ <;> rcases hy2' with ⟨hw', hv'⟩ | ⟨hw', rfl⟩
          · have := (hv w trivial).symm.trans (hv' w trivial); simp only [Result.ok.injEq, Next.value.injEq, and_true] at this; exact this.symm
          · rw [hw] at hw'; cases hw'
          · rw [hw] at hw'; cases hw'
          · rfl
        rw [huu, Array.setIfInBounds_comm _ _ (Ne.symm hji)] at h3
        exact h3
/-- operation k may be taken first -/
def freeC (P : Program) (md : Region.Mode) (ops : Array Oper) (c : List (Nat × Nat)) (listed : Array Bool) (k : Nat) : Bool :=
  match ops[k]? with
  | none => false
  | some ok =>
    let d := waitsFor md ops k
    waitsOk md ops k d && (d.length == ops.size) && (List.range ops.size).all (fun j => !d.getD j false || !listed.getD j false) &&
    (List.range ops.size).all fun j => listed.getD j true || j == k || d.getD j false || held c k j || match ops[j]? with
      | some oj => beside P ops ok oj
      | none => true
def serialC (P : Program) (md : Region.Mode) (ops : Array Oper) (c : List (Nat × Nat)) : List Nat → Array Bool → Bool
  | [], listed => (Region.ready md ops listed).isEmpty
  | k :: ord, listed => (Region.ready md ops listed).contains k && mayC c listed k && freeC P md ops c listed k && serialC P md ops c ord (listed.setIfInBounds k true)
theorem serialC_lex (hb : NoBad Q) (hs : Region.noSelect ops = true) : ∀ (ord : List Nat) (listed : Array Bool) (a : Act) (w : World),
    serialC P md ops cc ord listed = true → wpOps P ops Q ord a w → wpAnyC P md ops Q cc ord.length listed a w
  | [], _, _, _, hB, h => ⟨by simpa [serialC] using hB, by simpa [wpOps] using h⟩
  | k :: ord, listed, a, w, hB, h => by
    simp only [serialC, Bool.and_eq_true] at hB
    obtain ⟨⟨⟨hr, hm⟩, hf⟩, hB'⟩ := hB
    have hready : k ∈ Region.ready md ops listed := by simpa using hr
    obtain ⟨hun, o, h0, _⟩ := mem_ready.1 hready
    simp only [freeC, h0, Bool.and_eq_true, List.all_eq_true, List.mem_range, beq_iff_eq] at hf
    obtain ⟨⟨⟨hw1, hlen⟩, hw2⟩, hw3⟩ := hf
    have hd := waitsOk_spec hw1
    have hinv : ∀ j, (fun j => (waitsFor md ops k).getD j false) j = true → listed.getD j false = false := fun j hj => by
      rcases Nat.lt_or_ge j ops.size with h' | h'
      · have := hw2 j h'
        simp only [hj, Bool.not_true, Bool.false_or] at this
        simpa using this
      · have hj' : (waitsFor md ops k).getD j false = true := hj
        rw [List.getD, List.getElem?_eq_none (by omega)] at hj'
        cases hj'
    have hfree : ∀ j, listed.getD j true = false → j ≠ k → (fun j => (waitsFor md ops k).getD j false) j = false → held cc k j = false → ∀ oj, ops[j]? = some oj → beside P ops o oj = true := fun j hj hjk hdj hh oj hoj => by
      have h1 := hw3 j (Array.getElem?_eq_some_iff.1 hoj).1
      have hdj' : (waitsFor md ops k).getD j false = false := hdj
      simp only [hoj, hj, hdj', hh, Bool.or_false, Bool.false_or, Bool.or_eq_true, beq_iff_eq] at h1
      exact h1.resolve_left hjk
    have H : wpOp P ops Q k (wpAnyC P md ops Q cc ord.length (listed.setIfInBounds k true)) a w := by
      rw [wpOps_cons] at h
      exact wpOp_mono (fun a' w' h' => serialC_lex hb hs ord _ a' w' hB' h') h
    simp only [beside, Bool.and_eq_true, Bool.or_eq_true] at hfree
    by_cases hp : pureOp P o.op = true
    · obtain ⟨v, hy, hK⟩ := wpOp_pure hb h0 (pureEx_op _ _ hp) H
      exact wpAnyC_rd hb (C := fun _ => True) (fun _ _ _ _ => trivial) h0 (Region.noSelect_spec hs) hd _ _ _ _ hinv
        (fun j hj hjk hdj hh oj hoj => ⟨(hfree j hj hjk hdj hh oj hoj).1, .inl fun _ => trivial⟩) hready hm trivial hy hK
    · by_cases hrd : readOp P o.op = true
      · obtain ⟨v, hy, hK⟩ := wpOp_rd hb h0 (rdEx_op _ _ hrd) H
        exact wpAnyC_rd hb (C := Ext w) (fun _ _ h k => h.trans k) h0 (Region.noSelect_spec hs) hd _ _ _ _ hinv
          (fun j hj hjk hdj hh oj hoj => ⟨(hfree j hj hjk hdj hh oj hoj).1, .inr fun ρ => by
            rcases (hfree j hj hjk hdj hh oj hoj).2 with (h1 | h1) | h1
            · exact absurd h1 hp
            · exact (pureEx_op _ _ h1).rd.meek
            · exact meekEx_op _ _ h1.2⟩) hready hm (Ext.refl _) hy hK
      · exact wpAnyC_eff hb h0 (Region.noSelect_spec hs) hd _ _ _ _ hinv
          (fun j hj hjk hdj hh oj hoj => ⟨(hfree j hj hjk hdj hh oj hoj).1, fun ρ => by
            rcases (hfree j hj hjk hdj hh oj hoj).2 with (h1 | h1) | h1
            · exact absurd h1 hp
            · exact pureEx_op _ _ h1
            · exact absurd h1.1 hrd⟩) hready hm H
/-- does the order bring y ahead of x? -/
def obeys (c : List (Nat × Nat)) (L : Array Bool) : List Nat → Bool
  | [] => true
  | i :: rest => mayC c L i && obeys c (L.setIfInBounds i true) rest
theorem wpAnyC_sound : ∀ (fuel t : Nat) (listed : Array Bool) (a : Act) (w : World), obeys cc listed (Region.linearise.go md ops fuel t listed []) = true → wpAnyC P md ops Q cc fuel listed a w →
    wpOps P ops Q (Region.linearise.go md ops fuel t listed []) a w := by
  intro fuel
  induction fuel with
  | zero => intro t listed a w _ h; simpa [Region.linearise.go, wpOps] using h.2
  | succ fuel ih =>
    intro t listed a w ho h
    obtain ⟨h₀, h₁⟩ := h
    simp only [Region.linearise.go] at ho ⊢
    change obeys cc listed (match (Region.ready md ops listed)[t % (Region.ready md ops listed).length]? with
      | some i => Region.linearise.go md ops fuel (t / (Region.ready md ops listed).length) (listed.setIfInBounds i true) [i]
      | none => [].reverse) = true at ho
    change wpOps P ops Q (match (Region.ready md ops listed)[t % (Region.ready md ops listed).length]? with
      | some i => Region.linearise.go md ops fuel (t / (Region.ready md ops listed).length) (listed.setIfInBounds i true) [i]
      | none => [].reverse) a w
    cases hi : (Region.ready md ops listed)[t % (Region.ready md ops listed).length]? with
    | none =>
      have hnil : Region.ready md ops listed = [] := by
        cases hr : Region.ready md ops listed with
        | nil => rfl
        | cons x xs =>
          rw [hr] at hi
          have hlt : t % (x :: xs).length < (x :: xs).length := Nat.mod_lt _ (by simp)
          simp at hi
          simp at hlt
          omega
      simpa [wpOps] using h₀ hnil
    | some i =>
      rw [hi] at ho
      simp only [] at ho ⊢
      rw [linearise_go_acc, List.reverse_singleton, List.singleton_append] at ho ⊢
      simp only [obeys, Bool.and_eq_true] at ho
      rw [wpOps_cons]
      exact wpOp_mono (fun a w => ih _ _ a w ho.2) (h₁ i (List.mem_of_getElem? hi) ho.1)
/-- every order brings one of two ahead of the other -/
theorem obeys_or {x y : Nat} (hxy : x ≠ y) : ∀ (l : List Nat) (L : Array Bool), (∀ i ∈ l, i < L.size) → obeys [(x, y)] L l = true ∨ obeys [(y, x)] L l = true := by
  intro l
  induction l with
  | nil => intro L _; exact .inl rfl
  | cons i l ih =>
    intro L hL
    have hsz : ∀ k ∈ l, k < (L.setIfInBounds i true).size := fun k hk => by simpa using hL k (by simp [hk])
    have hi : i < L.size := hL i (by simp)
    -- once y is listed the rule (x, y) holds for good
    have done : ∀ (p q : Nat) (l : List Nat) (L : Array Bool), L.getD q false = true → obeys [(p, q)] L l = true := by
      intro p q l
      induction l with
      | nil => intro L _; rfl
      | cons j l ih2 =>
        intro L hq
        simp only [obeys, mayC, List.all_cons, List.all_nil, Bool.and_true, hq, Bool.or_true, Bool.true_and]
        refine ih2 _ ?_
        by_cases hj : j = q
        · subst hj
          have : j < L.size := by
            rcases Nat.lt_or_ge j L.size with h' | h'
            · exact h'
            · simp [Array.getElem?_eq_none h'] at hq
          simp [this]
        · rw [getD_set_ne false hj]; exact hq
    by_cases hx : i = x
    · subst hx
      right
      have h1 : mayC [(y, i)] L i = true := by simp [mayC, hxy]
      simp only [obeys, h1, Bool.true_and]
      exact done _ _ _ _ (by simp [hi])
    · by_cases hy : i = y
      · subst hy
        left
        have h1 : mayC [(x, i)] L i = true := by simp [mayC, hx]
        simp only [obeys, h1, Bool.true_and]
        exact done _ _ _ _ (by simp [hi])
      · have h1 : mayC [(x, y)] L i = true := by simp [mayC, hx]
        have h2 : mayC [(y, x)] L i = true := by simp [mayC, hy]
        simp only [obeys, h1, h2, Bool.true_and]
        exact ih _ hsz
theorem lin_lt : ∀ (fuel t : Nat) (listed : Array Bool), listed.size = ops.size → ∀ i ∈ Region.linearise.go md ops fuel t listed [], i < ops.size := by
  intro fuel
  induction fuel with
  | zero => intro t listed _ i hi; simp [Region.linearise.go] at hi
  | succ fuel ih =>
    intro t listed hsz i hi
    simp only [Region.linearise.go] at hi
    split at hi
    · rename_i k hk
      rw [linearise_go_acc, List.reverse_singleton, List.singleton_append] at hi
      rcases List.mem_cons.1 hi with rfl | h
      · have := List.mem_of_getElem? hk
        simp only [List.mem_filter, List.mem_range] at this
        exact this.1
      · exact ih _ _ (by simpa using hsz) i h
    · simp at hi
def serial2 (P : Program) (ops : Array Oper) (k j : Nat) (ord : List Nat) : Bool :=
  Region.noSelect ops && decide (k < j) && serialC P .any ops [(j, k)] (List.range ops.size) (Array.replicate ops.size false) && serialC P .any ops [(k, j)] ord (Array.replicate ops.size false)
  && ord.all (fun i => decide (i < ops.size)) && ord.length == ops.size
theorem wpOps_perm (ord : List Nat) : ∀ (l : List Oper), (∀ i : Nat, l[i]? = (ord[i]?).bind (ops[·]?)) → l.length = ord.length → ∀ a w, wpList P ops Q l a w → wpOps P ops Q ord a w := by
  induction ord with
  | nil =>
    intro l _ hlen a w h
    obtain rfl : l = [] := List.eq_nil_of_length_eq_zero (by simpa using hlen)
    simpa [wpOps, wpList] using h
  | cons k ord ih =>
    intro l hl hlen a w h
    match l, hlen with
    | o :: l, hlen =>
      have h0 : ops[k]? = some o := by simpa using (hl 0).symm
      rw [wpOps_cons]
      unfold Go.wpOp
      simp only [h0]
      have hih := ih l (fun i => by simpa using hl (i + 1)) (by simpa using hlen)
      simp only [wpList] at h
      split
      · rename_i hw
        rw [if_pos hw] at h
        exact orMap h (Oper.wp_mono hih) id
      · rename_i hw
        rw [if_neg hw] at h
        exact hih _ _ h
theorem filterMap_all {α β : Type} (f : α → Option β) (g : α → β) : ∀ (l : List α), (∀ i ∈ l, f i = some (g i)) → l.filterMap f = l.map g
  | [], _ => rfl
  | x :: l, h => by
    rw [List.filterMap_cons, h x (by simp), List.map_cons, filterMap_all f g l (fun i hi => h i (by simp [hi]))]
/-- **two orders for all** -/
theorem wp_serial2 (k j : Nat) (ord : List Nat) {id : Nat} {a : Act} {w : World} {l : List Oper} (lB : List Oper) (hm : P.follows .mixedOrders = true) (hB : serial2 P l.toArray k j ord = true) (hlB : ord.filterMap (l.toArray[·]?) = lB) (hb : NoBad Q)
    (h1 : wpList P l.toArray Q l a w.drew) (h2 : wpList P l.toArray Q lB a w.drew) : (Code.region id l.toArray true).wp P Q a w := by
  simp only [serial2, Bool.and_eq_true, decide_eq_true_eq, beq_iff_eq] at hB
  obtain ⟨⟨⟨⟨⟨hs, hkj⟩, hA⟩, hBB⟩, hin⟩, hlen⟩ := hB
  refine wp_region_draw fun t => ?_
  simp only [Region.schedule, hm, Bool.true_or, if_true]
  change wpOps P l.toArray Q (Region.linearise.go .any l.toArray l.toArray.size t (Array.replicate l.toArray.size false) []) a w.drew
  have hlt := lin_lt (md := .any) (ops := l.toArray) l.toArray.size t (Array.replicate l.toArray.size false) (by simp)
  rcases obeys_or (x := j) (y := k) (by omega) (Region.linearise.go .any l.toArray l.toArray.size t (Array.replicate l.toArray.size false) []) (Array.replicate l.toArray.size false) (fun i hi => by simpa using hlt i hi) with h | h
  · have h1' : wpOps P l.toArray Q (List.range l.toArray.size) a w.drew := by
      have := wpOps_eq_wpList (P := P) (ops := l.toArray) (Q := Q) l 0 (fun j => by simp)
      rw [List.range_eq_range']
      simpa using (congrFun (congrFun this a) w.drew).mpr h1
    have := serialC_lex hb hs _ _ a w.drew hA h1'
    rw [List.length_range] at this
    exact wpAnyC_sound _ t _ _ _ h this
  · have hall : ∀ i ∈ ord, i < l.toArray.size := fun i hi => by simpa using List.all_eq_true.1 hin i hi
    have hmap : lB = ord.map fun i => (l.toArray[i]?).getD ⟨none, .move (.tmp 0), 0, "", #[], none⟩ := by
      rw [← hlB]
      exact filterMap_all _ _ _ (fun i hi => by simp [Array.getElem?_eq_getElem (hall i hi)])
    have h2' : wpOps P l.toArray Q ord a w.drew := by
      refine wpOps_perm _ lB (fun i => ?_) (by rw [hmap, List.length_map]) a w.drew h2
      rw [hmap, List.getElem?_map]
      cases hi : ord[i]? with
      | none => rfl
      | some m =>
        have hm' : m < l.length := by simpa using hall m (List.mem_of_getElem? hi)
        simp [hm']
    have := serialC_lex hb hs _ _ a w.drew hBB h2'
    rw [hlen] at this
    exact wpAnyC_sound _ t _ _ _ h this
end
end Go.Proofs.Ytijmbpokglohbaa

namespace Go.Proofs.Ytijmbpokglohbaa
set_option linter.unusedSimpArgs false
set_option linter.unusedVariables false

section
variable {P : Program} {md : Region.Mode} {ops : Array Oper} {Q : Exit → Act → World → Prop}
def Keep (F : Nat → Bool) (i : Nat) (w w' : World) : Prop := F i = true → Ext w w'
theorem Keep.refl {F : Nat → Bool} {i : Nat} (w : World) : Keep F i w w := fun _ => Ext.refl w
def wpAnyF (P : Program) (md : Region.Mode) (ops : Array Oper) (Q : Exit → Act → World → Prop) (F : Nat → Bool) (cc : List (Nat × Nat)) : Nat → Array Bool → Act → World → Prop
  | 0, listed, a, w => Region.ready md ops listed = [] ∧ Q .normal a w
  | fuel + 1, listed, a, w =>
    (Region.ready md ops listed = [] → Q .normal a w) ∧
    ∀ i ∈ Region.ready md ops listed, mayC cc listed i = true → wpOp P ops Q i (fun a' w' => Keep F i w w' ∧ wpAnyF P md ops Q F cc fuel (listed.setIfInBounds i true) a' w') a w
variable {cc : List (Nat × Nat)}
theorem wpAnyF.any {F : Nat → Bool} : ∀ (fuel : Nat) (listed : Array Bool) (a : Act) (w : World), wpAnyF P md ops Q F cc fuel listed a w → wpAnyC P md ops Q cc fuel listed a w
  | 0, _, _, _, h => h
  | fuel + 1, listed, a, w, h => ⟨h.1, fun i hi hm => wpOp_mono (fun a' w' k => wpAnyF.any fuel _ a' w' k.2) (h.2 i hi hm)⟩
/-- an operation beside a reading, whose end tells that the reading still stands -/
theorem wpOp_putK (hb : NoBad Q) {C : World → Prop} {j : Nat} {oi oj : Oper} {v : Value} (hj : ops[j]? = some oj) (hap : oi.apart ops oj = true)
    (hsi : ∀ cs b, oi.op ≠ .select cs b) (hsj : ∀ cs b, oj.op ≠ .select cs b) {K : Act → World → Prop} {a : Act} {w : World} (hCw : C w)
    (hm : ∀ a' w', K a' w' → C w')
    (hy : YieldsC P ops C oi v a) (h : wpOp P ops Q j K (a.put oi.dst v) w) :
    wpOp P ops Q j (fun a' w' => C w' ∧ YieldsC P ops C oi v a' ∧ K (a'.put oi.dst v) w') a w := by
  obtain ⟨h1, h2, h3⟩ := Oper.apart_spec hap
  have keep : ∀ (a : Act), YieldsC P ops C oi v a → ∀ u, YieldsC P ops C oi v (a.put oj.dst u) := fun a hy u =>
    hy.of_same (execOp_put oi hsi a oj.dst u h3) (wanted_put oi a oj.dst u h3)
  have keepD : ∀ d, YieldsC P ops C oi v { a with defers := d :: a.defers } := fun d => hy.of_same rfl rfl
  unfold Go.wpOp at *
  simp only [hj] at *
  rw [wanted_put oj a oi.dst v h1] at h
  split at h
  · rename_i hw
    rw [if_pos hw]
    rcases h with h | ⟨_, h⟩
    case inr => exact absurd h hb.lets
    refine .inl ?_
    unfold Oper.wp at *
    rw [execOp_put oj hsj a oi.dst v h1] at h
    cases hrun : (execOp a.eval oj).run P w with
    | ok n w' =>
      rw [hrun] at h
      cases n <;> simp only [Oper.upon] at h ⊢
      case value u => exact ⟨hm _ _ h, keep a hy u, by rw [← Act.put_comm a v u h2]; exact h⟩
      case skip => exact ⟨hm _ _ h, keep a hy _, by rw [← Act.put_comm a v undef h2]; exact h⟩
      case defer d =>
        refine ⟨hm _ _ h, keep _ (keepD d) _, ?_⟩
        rw [← Act.put_comm _ v undef h2, ← Act.put_defers]
        exact h
      case enter f args =>
        refine Calls.mono h fun e w'' he => ?_
        cases e with
        | returned u => exact ⟨hm _ _ he, keep a hy u, by rw [← Act.put_comm a v u h2]; exact he⟩
        | panicked c => exact absurd he (hb.pan _ _ _)
        | outgrown => exact he
      case row row args => exact Rows.mono h fun u w'' he => ⟨hm _ _ he, keep a hy u, by rw [← Act.put_comm a v u h2]; exact he⟩
    | halt x w' =>
      rw [hrun] at h
      cases x <;> simp only [Oper.upon] at h ⊢
      exact absurd h (hb.pan _ _ _)
  · rename_i hw
    rw [if_neg hw]
    exact ⟨hCw, keep a hy _, by rw [← Act.put_comm a v undef h2]; exact h⟩
/-- what can't come as long as i has not: it waits for i, or for what does, by the region's rules or by those of cc -/
def WaitsC (md : Region.Mode) (ops : Array Oper) (c : List (Nat × Nat)) (i : Nat) (d : Nat → Bool) : Prop :=
  ∀ j oj, ops[j]? = some oj → d j = true → (∃ e ∈ oj.after, Region.binds md e = true ∧ (e.on = i ∨ d e.on = true)) ∨ held c i j = true
theorem not_waitsC {i : Nat} {d : Nat → Bool} (hd : WaitsC md ops cc i d) {listed : Array Bool} (hu : listed.getD i true = false) (hinv : ∀ j, d j = true → listed.getD j false = false) {j : Nat}
    (hj : j ∈ Region.ready md ops listed) (hm : mayC cc listed j = true) : d j = false := by
  cases hdj : d j with
  | false => rfl
  | true =>
    obtain ⟨_, oj, hoj, hall⟩ := mem_ready.1 hj
    rcases hd j oj hoj hdj with ⟨e, he, hb, h⟩ | h
    · have h1 := hall e he hb
      rcases h with h | h
      · rw [h] at h1
        rcases Nat.lt_or_ge i listed.size with h' | h'
        · simp [h'] at hu h1; rw [hu] at h1; cases h1
        · simp [Array.getElem?_eq_none h'] at h1
      · rw [hinv _ h] at h1; cases h1
    · rw [held_no hu hm] at h; cases h
variable {F : Nat → Bool}
theorem wpAnyF_rd (hb : NoBad Q) {C : World → Prop} (hC : ∀ u u', C u → Ext u u' → C u') {i : Nat} {oi : Oper} {v : Value} {d : Nat → Bool} (hi : ops[i]? = some oi)
    (hsel : ∀ (j : Nat) (o : Oper) cs b, ops[j]? = some o → o.op ≠ .select cs b) (hd : WaitsC md ops cc i d) :
    ∀ (fuel : Nat) (listed : Array Bool) (a : Act) (w : World), (∀ j, d j = true → listed.getD j false = false) → (∀ j, listed.getD j true = false → j ≠ i → d j = false → held cc i j = false → ∀ oj, ops[j]? = some oj → oi.apart ops oj = true ∧ (((∀ u, C u) ∨ ∀ ρ, MeekEx P (execOp ρ oj)) ∨ F j = true)) →
      i ∈ Region.ready md ops listed → mayC cc listed i = true → C w → YieldsC P ops C oi v a →
      wpAnyF P md ops Q F cc fuel (listed.setIfInBounds i true) (a.put oi.dst v) w → wpAnyF P md ops Q F cc (fuel + 1) listed a w := by
  intro fuel
  induction fuel with
  | zero =>
    intro listed a w _ _ hr hmi hCw hy H
    refine ⟨fun h => (by rw [h] at hr; cases hr), fun j hj hcj => ?_⟩
    by_cases hji : j = i
    · subst hji; exact hy.wpOp hi hCw ⟨Keep.refl w, H⟩
    · have := ready_mono hj hji
      rw [H.1] at this
      cases this
  | succ fuel ih =>
    intro listed a w hinv hf hr hmi hCw hy H
    refine ⟨fun h => (by rw [h] at hr; cases hr), fun j hj hcj => ?_⟩
    by_cases hji : j = i
    · subst hji; exact hy.wpOp hi hCw ⟨Keep.refl w, H⟩
    · have h1 := H.2 j (ready_mono hj hji) (mayC_mono _ hcj)
      obtain ⟨hjun, oj, hoj, hall⟩ := mem_ready.1 hj
      have hdj := not_waitsC hd (mem_ready.1 hr).1 hinv hj hcj
      obtain ⟨hap, hm⟩ := hf j hjun hji hdj (held_no (mem_ready.1 hr).1 hcj) oj hoj
      have h2 : wpOp P ops Q j (fun a' w' => C w' ∧ YieldsC P ops C oi v a' ∧ (Keep F j w w' ∧ wpAnyF P md ops Q F cc fuel ((listed.setIfInBounds i true).setIfInBounds j true) (a'.put oi.dst v) w')) a w := by
        rcases hm with hm | hm
        · exact wpOp_putC hb hC hoj hap (fun cs b => hsel i oi cs b hi) (fun cs b => hsel j oj cs b hoj) hCw (orMap hm id fun h => h _) hy h1
        · exact wpOp_putK hb hoj hap (fun cs b => hsel i oi cs b hi) (fun cs b => hsel j oj cs b hoj) hCw (fun a' w' hk => hC _ _ hCw (hk.1 hm)) hy h1
      refine wpOp_mono (fun a' w' h3 => ⟨h3.2.2.1, ih (listed.setIfInBounds j true) a' w' (inv_set hinv hdj) (fun k hk hki hdk hhk ok hok => ?_) (ready_mono hr (Ne.symm hji)) (mayC_mono _ hmi) h3.1 h3.2.1 ?_⟩) h2
      · by_cases hjk : j = k
        · subst hjk; exact hf j hjun hki hdk hhk ok hok
        · rw [getD_set_ne true hjk] at hk; exact hf k hk hki hdk hhk ok hok
      · rw [Array.setIfInBounds_comm _ _ hji]
        exact h3.2.2.2
theorem wpAnyF_eff (hb : NoBad Q) {i : Nat} {oi : Oper} {d : Nat → Bool} (hi : ops[i]? = some oi)
    (hsel : ∀ (j : Nat) (o : Oper) cs b, ops[j]? = some o → o.op ≠ .select cs b) (hd : WaitsC md ops cc i d) :
    ∀ (fuel : Nat) (listed : Array Bool) (a : Act) (w : World), (∀ j, d j = true → listed.getD j false = false) → (∀ j, listed.getD j true = false → j ≠ i → d j = false → held cc i j = false → ∀ oj, ops[j]? = some oj → oi.apart ops oj = true ∧ ∀ ρ, PureEx P (execOp ρ oj)) →
      i ∈ Region.ready md ops listed → mayC cc listed i = true →
      wpOp P ops Q i (fun a' w' => Keep F i w w' ∧ wpAnyF P md ops Q F cc fuel (listed.setIfInBounds i true) a' w') a w → wpAnyF P md ops Q F cc (fuel + 1) listed a w := by
  intro fuel
  induction fuel with
  | zero =>
    intro listed a w _ _ hr hmi H
    refine ⟨fun h => (by rw [h] at hr; cases hr), fun j hj hcj => ?_⟩
    by_cases hji : j = i
    · subst hji; exact H
    · obtain ⟨a1, w1, h1⟩ := wpOp_some hb hi H
      have := ready_mono hj hji
      rw [h1.2.1] at this
      cases this
  | succ fuel ih =>
    intro listed a w hinv hf hr hmi H
    refine ⟨fun h => (by rw [h] at hr; cases hr), fun j hj hcj => ?_⟩
    by_cases hji : j = i
    · subst hji; exact H
    · obtain ⟨hjun, oj, hoj, hall⟩ := mem_ready.1 hj
      have hdj := not_waitsC hd (mem_ready.1 hr).1 hinv hj hcj
      obtain ⟨hap, hpu⟩ := hf j hjun hji hdj (held_no (mem_ready.1 hr).1 hcj) oj hoj
      obtain ⟨p1, p2, p3⟩ := Oper.apart_spec hap
      have H' := wpOp_tmps hb hi H
      have hsame : ∀ a1 : Act, (∃ v, a1.tmps = (a.put oi.dst v).tmps) → execOp a1.eval oj = execOp a.eval oj ∧ Region.wanted oj (yielded ops a1.tmps) = Region.wanted oj (yielded ops a.tmps) := by
        rintro a1 ⟨v, hv⟩
        have he : a1.eval = (a.put oi.dst v).eval := by funext x; cases x <;> simp only [Act.eval, hv]
        rw [he, hv]
        exact ⟨execOp_put oj (fun cs b => hsel j oj cs b hoj) a oi.dst v p1, wanted_put oj a oi.dst v p1⟩
      obtain ⟨a1, w1, h1, ht⟩ := wpOp_some hb hi H'
      obtain ⟨u, hy1, _⟩ := wpOp_pure hb hoj (hpu _) (h1.2.2 j (ready_mono hj hji) (mayC_mono _ hcj))
      have hy : YieldsC P ops (fun _ => True) oj u a := hy1.of_same (hsame a1 ht).1.symm (hsame a1 ht).2.symm
      refine hy.wpOp hoj trivial ⟨Keep.refl w, ?_⟩
      refine ih (listed.setIfInBounds j true) (a.put oj.dst u) w (inv_set hinv hdj) (fun k hk hki hdk hhk ok hok => ?_) (ready_mono hr (Ne.symm hji)) (mayC_mono _ hmi) ?_
      · by_cases hjk : j = k
        · subst hjk; exact hf j hjun hki hdk hhk ok hok
        · rw [getD_set_ne true hjk] at hk; exact hf k hk hki hdk hhk ok hok
      · refine wpOp_back hb hi hap (fun cs b => hsel i oi cs b hi) (wpOp_mono (fun a2 w2 ⟨h2, ht2⟩ => ?_) H')
        obtain ⟨u', hy2, h3⟩ := wpOp_pure hb hoj (hpu _) (h2.2.2 j (ready_mono hj hji) (mayC_mono _ hcj))
        have hy2' : YieldsC P ops (fun _ => True) oj u' a := hy2.of_same (hsame a2 ht2).1.symm (hsame a2 ht2).2.symm
        have huu : u' = u := by
          rcases hy with ⟨hw, hv⟩ | ⟨hw, rfl⟩ <;> rcases hy2' with ⟨hw', hv'⟩ | ⟨hw', rfl⟩
          · have := (hv w trivial).symm.trans (hv' w trivial); simp only [Result.ok.injEq, Next.value.injEq, and_true] at this; exact this.symm
          · rw [hw] at hw'; cases hw'
          · rw [hw] at hw'; cases hw'
          · rfl
        rw [huu, Array.setIfInBounds_comm _ _ (Ne.symm hji)] at h3
        exact ⟨h2.1, h3.2⟩

theorem getD_put_ne {α : Type} (xs : Array α) (i j : Nat) (x d : α) (h : i ≠ j) : (xs.setIfInBounds i x).getD j d = xs.getD j d := by
  simp [Array.getD_eq_getD_getElem?, Array.getElem?_setIfInBounds, h]
/-! ### whole numbers -/
def isI : Value → Bool
  | .int _ _ => true
  | _ => false
def opI (is : List Nat) : Operand → Bool
  | .tmp t => is.contains t
  | .const v => isI v
  | _ => false
def intOp (is : List Nat) : Op → Bool
  | .binOp _ _ x y _ => opI is x && opI is y
  | _ => false
def givesI (is : List Nat) : Op → Bool
  | .move x | .assign x => opI is x
  | .binOp bo _ x y _ => opI is x && opI is y && (match bo with | .add | .sub | .mul | .quo | .rem | .and | .or | .xor | .andNot | .shl | .shr => true | _ => false)
  | _ => false
def nextI (n : Nat) (is : List Nat) (o : Oper) : List Nat := match o.dst with
  | none => is
  | some d => if o.guard.isNone && decide (d < n) && givesI is o.op then d :: is else is.filter (· != d)
abbrev KnowsI (n : Nat) (is : List Nat) (a : Act) : Prop := n ≤ a.tmps.size ∧ ∀ s ∈ is, isI (a.eval (.tmp s)) = true
theorem KnowsI.op {n : Nat} {is : List Nat} {a : Act} (h : KnowsI n is a) {x : Operand} (hx : opI is x = true) : ∃ k z, a.eval x = .int k z := by
  have : isI (a.eval x) = true := by
    cases x with
    | tmp t => exact h.2 t (by simpa [opI] using hx)
    | const v => exact hx
    | _ => cases hx
  cases hv : a.eval x <;> rw [hv] at this <;> first | cases this | skip
  exact ⟨_, _, rfl⟩
theorem calm_eqGuardI (o : BinOp) (t : TypeId) (x y : Operand) (k l : IntKind) (m n : Int) : Calm P (eqGuard o t x y (.int k m) (.int l n)) := by
  unfold eqGuard
  split <;> exact calm_pure _
theorem calm_binI (bo : BinOp) (t : TypeId) (k l : IntKind) (m n : Int) : Calm P (binOp bo t (.int k m) (.int l n)) := by
  have h0 : Calm P (if k ≠ l then stuck "BinOp: operands of different kinds" else
    match bo with
    | .add | .sub | .mul => Op.intArith bo k m n
    | .quo | .rem => Op.intDiv bo k m n
    | .and | .or | .xor | .andNot => Op.intBits bo k m n
    | _ => Op.intCmp bo m n) := by
    split
    · exact (dies_stuck _).calm
    · split <;> first | exact calm_intArith _ _ _ _ | exact calm_intDiv _ _ _ _ | exact calm_intBits _ _ _ _ | exact calm_intCmp _ _ _
  cases bo <;> first | exact h0 | (unfold binOp; exact calm_shift _ _ _ _ _)
theorem pureEx_int {n : Nat} {is : List Nat} {a : Act} (h : KnowsI n is a) (o : Oper) (ho : intOp is o.op = true) : PureEx P (execOp a.eval o) := by
  obtain ⟨dst, op, type, pos, after, guard⟩ := o
  cases op <;> simp only [intOp] at ho <;> try (cases ho; done)
  rename_i bo t x y yt
  simp only [Bool.and_eq_true] at ho
  obtain ⟨k, m, hx⟩ := h.op ho.1
  obtain ⟨l, n', hy⟩ := h.op ho.2
  refine pureEx_of (s := do eqGuard bo t x y (a.eval x) (a.eval y); binOp bo t (a.eval x) (a.eval y)) ?_
  rw [hx, hy]
  exact calm_bind (calm_eqGuardI _ _ _ _ _ _ _ _) fun _ => calm_binI _ _ _ _ _ _
/-- what an operation gives -/
def GivesI (P : Program) (s : Sem Value) : Prop := ∀ w w' v, s.run P w = .ok v w' → isI v = true
theorem givesI_pure (k : IntKind) (z : Int) : GivesI P (pure (.int k z)) := fun w w' v h => by
  simp only [Sem.run_pure, Result.ok.injEq] at h; obtain ⟨rfl, _⟩ := h; rfl
theorem givesI_dies {s : Sem Value} (h : Dies P s) : GivesI P s := fun w w' v hv => absurd hv (h _ _ _)
theorem givesI_bin (bo : BinOp) (hbo : (match bo with | .add | .sub | .mul | .quo | .rem | .and | .or | .xor | .andNot | .shl | .shr => true | _ => false) = true) (t : TypeId) (k l : IntKind) (m n : Int) : GivesI P (binOp bo t (.int k m) (.int l n)) := by
  have hS : GivesI P (Op.shift bo k m l n) := by
    unfold Op.shift
    split
    · exact givesI_dies (dies_runtimePanic _)
    · dsimp only
      split <;> first | exact givesI_pure _ _ | exact givesI_dies (dies_stuck _)
  have h0 : (match bo with | .add | .sub | .mul | .quo | .rem | .and | .or | .xor | .andNot => true | _ => false) = true → GivesI P (if k ≠ l then stuck "BinOp: operands of different kinds" else
    match bo with
    | .add | .sub | .mul => Op.intArith bo k m n
    | .quo | .rem => Op.intDiv bo k m n
    | .and | .or | .xor | .andNot => Op.intBits bo k m n
    | _ => Op.intCmp bo m n) := by
    intro hb
    split
    · exact givesI_dies (dies_stuck _)
    · cases bo <;> first
        | (cases hb; done)
        | exact givesI_pure _ _
        | (simp only [Op.intDiv]; split <;> first | exact givesI_dies (dies_runtimePanic _) | exact givesI_pure _ _)
  cases bo <;> first | (cases hbo; done) | exact h0 rfl | (unfold binOp; exact hS)
theorem givesI_spec {n : Nat} {is : List Nat} {a : Act} (h : KnowsI n is a) (o : Oper) (ho : givesI is o.op = true) {w w' : World} {v : Value} (hr : (execOp a.eval o).run P w = .ok (.value v) w') : isI v = true := by
  obtain ⟨dst, op, type, pos, after, guard⟩ := o
  have key : ∀ {s : Sem Value}, GivesI P s → (do pure (Next.value (← s)) : Sem Next).run P w = .ok (.value v) w' → isI v = true := by
    intro s hs hr
    obtain ⟨y, w1, h1, h2⟩ := ok_bind hr
    simp only [Sem.run_pure, Result.ok.injEq, Next.value.injEq] at h2
    obtain ⟨rfl, rfl⟩ := h2
    exact hs _ _ _ h1
  cases op <;> simp only [givesI] at ho <;> try (cases ho; done)
  case move x =>
    obtain ⟨k, z, hx⟩ := h.op ho
    exact key (s := pure (a.eval x)) (by rw [hx]; exact givesI_pure _ _) hr
  case assign x =>
    obtain ⟨k, z, hx⟩ := h.op ho
    exact key (s := pure (a.eval x)) (by rw [hx]; exact givesI_pure _ _) hr
  case binOp bo t x y yt =>
    simp only [Bool.and_eq_true] at ho
    obtain ⟨k, m, hx⟩ := h.op ho.1.1
    obtain ⟨l, n', hy⟩ := h.op ho.1.2
    refine key (s := do eqGuard bo t x y (a.eval x) (a.eval y); binOp bo t (a.eval x) (a.eval y)) ?_ hr
    rw [hx, hy]
    intro w w' v hv
    obtain ⟨y, w1, h1, h2⟩ := ok_bind hv
    exact givesI_bin bo ho.2 _ _ _ _ _ _ _ _ h2
theorem KnowsI.put {n : Nat} {is : List Nat} {a : Act} (h : KnowsI n is a) (o : Oper) (v : Value) (hv : o.guard.isNone = true → givesI is o.op = true → isI v = true) : KnowsI n (nextI n is o) (a.put o.dst v) := by
  unfold nextI
  cases hd : o.dst with
  | none => exact h
  | some d =>
    refine ⟨by simpa [Act.put] using h.1, fun s hs => ?_⟩
    dsimp only at hs
    have hne : s ≠ d → (a.put (some d) v).eval (.tmp s) = a.eval (.tmp s) := fun hsd => by
      simp only [Act.eval, Act.put]; exact getD_put_ne _ _ _ _ _ (Ne.symm hsd)
    split at hs
    · rename_i hc
      simp only [Bool.and_eq_true, decide_eq_true_eq] at hc
      by_cases hsd : s = d
      · subst hsd
        have : (a.put (some s) v).eval (.tmp s) = v := by
          have := h.1
          have hlt : s < a.tmps.size := Nat.lt_of_lt_of_le hc.1.2 h.1
          simp [Act.eval, Act.put, hlt]
        rw [this]; exact hv hc.1.1 hc.2
      · rw [hne hsd]; exact h.2 s (by simpa [hsd] using hs)
    · simp only [List.mem_filter, bne_iff_ne] at hs
      rw [hne hs.2]; exact h.2 s hs.1
theorem KnowsI.of_tmps {n : Nat} {is : List Nat} {a b : Act} (h : KnowsI n is a) (e : b.tmps = a.tmps) : KnowsI n is b :=
  ⟨by rw [e]; exact h.1, fun s hs => by have := h.2 s hs; simp only [Act.eval, e] at this ⊢; exact this⟩
def leftI (is : List Nat) (o : Oper) : List Nat := match o.dst with
  | none => is
  | some d => is.filter (· != d)

/-! ### the Bool -/
def pureI (P : Program) (is : List Nat) (op : Op) : Bool := pureOp P op || intOp is op
def besideF (P : Program) (ops : Array Oper) (marks : List Nat) (is : List Nat) (oi oj : Oper) (j : Nat) : Bool :=
  oi.apart ops oj && (pureI P is oi.op || pureOp P oj.op || (readOp P oi.op && (meekOp P oj.op || marks.contains j)))
def waitsForC (md : Region.Mode) (ops : Array Oper) (c : List (Nat × Nat)) (i : Nat) : List Bool :=
  ops.toList.foldl (fun acc o => acc ++ [held c i acc.length || o.after.toList.any fun e => Region.binds md e && (e.on == i || acc.getD e.on false)]) []
def waitsOkC (md : Region.Mode) (ops : Array Oper) (c : List (Nat × Nat)) (i : Nat) (d : List Bool) : Bool :=
  (List.range ops.size).all fun j => !d.getD j false || held c i j || match ops[j]? with
    | some o => o.after.toList.any fun e => Region.binds md e && (e.on == i || d.getD e.on false)
    | none => true
theorem waitsOkC_spec {c : List (Nat × Nat)} {i : Nat} {d : List Bool} (h : waitsOkC md ops c i d = true) : WaitsC md ops c i (fun j => d.getD j false) := fun j oj hoj hd => by
  simp only [waitsOkC, List.all_eq_true, List.mem_range] at h
  have h1 := h j (Array.getElem?_eq_some_iff.1 hoj).1
  simp only [hd, hoj, Bool.not_true, Bool.false_or, List.any_eq_true, Bool.and_eq_true, Bool.or_eq_true, beq_iff_eq] at h1
  rcases h1 with h1 | ⟨e, he, hb, hor⟩
  · exact .inr h1
  · exact .inl ⟨e, by simpa using he, hb, hor⟩
def freeF (P : Program) (md : Region.Mode) (ops : Array Oper) (c : List (Nat × Nat)) (marks is : List Nat) (listed : Array Bool) (k : Nat) (ok : Oper) : Bool :=
  let d := waitsForC md ops c k
  waitsOkC md ops c k d && (d.length == ops.size) && (List.range ops.size).all (fun j => !d.getD j false || !listed.getD j false) &&
  (List.range ops.size).all fun j => listed.getD j true || j == k || d.getD j false || held c k j || match ops[j]? with
    | some oj => besideF P ops marks is ok oj j
    | none => true
def serialF (P : Program) (md : Region.Mode) (ops : Array Oper) (c : List (Nat × Nat)) (n : Nat) (marks : List Nat) : List Nat → List Nat → Array Bool → Bool
  | [], _, listed => (Region.ready md ops listed).isEmpty
  | k :: ord, is, listed => match ops[k]? with
    | none => false
    | some o => (Region.ready md ops listed).contains k && mayC c listed k && freeF P md ops c marks is listed k o && serialF P md ops c n marks ord (if pureI P is o.op then nextI n is o else leftI is o) (listed.setIfInBounds k true)
def wpOrd (P : Program) (ops : Array Oper) (Q : Exit → Act → World → Prop) (F : Nat → Bool) : List Nat → Act → World → Prop
  | [], a, w => Q .normal a w
  | k :: ord, a, w => wpOp P ops Q k (fun a' w' => Keep F k w w' ∧ wpOrd P ops Q F ord a' w') a w
theorem leftI_put {n : Nat} {is : List Nat} {a : Act} (h : KnowsI n is a) (o : Oper) (v : Value) : KnowsI n (leftI is o) (a.put o.dst v) := by
  unfold leftI
  cases hd : o.dst with
  | none => exact h
  | some d =>
    refine ⟨by simpa [Act.put] using h.1, fun s hs => ?_⟩
    simp only [List.mem_filter, bne_iff_ne] at hs
    have : (a.put (some d) v).eval (.tmp s) = a.eval (.tmp s) := by
      simp only [Act.eval, Act.put]; exact getD_put_ne _ _ _ _ _ (Ne.symm hs.2)
    rw [this]; exact h.2 s hs.1
theorem serialF_lex (hb : NoBad Q) (hs : Region.noSelect ops = true) (n : Nat) (marks : List Nat) : ∀ (ord is : List Nat) (listed : Array Bool) (a : Act) (w : World), KnowsI n is a →
    serialF P md ops cc n marks ord is listed = true → wpOrd P ops Q (fun i => marks.contains i) ord a w → wpAnyF P md ops Q (fun i => marks.contains i) cc ord.length listed a w
  | [], _, _, _, _, _, hB, h => ⟨by simpa [serialF] using hB, by simpa [wpOrd] using h⟩
  | k :: ord, is, listed, a, w, hI, hB, h => by
    cases h0 : ops[k]? with
    | none => simp only [serialF, h0] at hB; cases hB
    | some o =>
    simp only [serialF, h0, Bool.and_eq_true] at hB
    obtain ⟨⟨⟨hr, hmi⟩, hf⟩, hB'⟩ := hB
    have hready : k ∈ Region.ready md ops listed := by simpa using hr
    simp only [freeF, Bool.and_eq_true, List.all_eq_true, List.mem_range, beq_iff_eq] at hf
    obtain ⟨⟨⟨hw1, hlen⟩, hw2⟩, hw3⟩ := hf
    have hd := waitsOkC_spec hw1
    have hinv : ∀ j, (fun j => (waitsForC md ops cc k).getD j false) j = true → listed.getD j false = false := fun j hj => by
      rcases Nat.lt_or_ge j ops.size with h' | h'
      · have := hw2 j h'
        simp only [hj, Bool.not_true, Bool.false_or] at this
        simpa using this
      · have hj' : (waitsForC md ops cc k).getD j false = true := hj
        rw [List.getD, List.getElem?_eq_none (by omega)] at hj'
        cases hj'
    have hfree : ∀ j, listed.getD j true = false → j ≠ k → (fun j => (waitsForC md ops cc k).getD j false) j = false → held cc k j = false → ∀ oj, ops[j]? = some oj → besideF P ops marks is o oj j = true := fun j hj hjk hdj hh oj hoj => by
      have h1 := hw3 j (Array.getElem?_eq_some_iff.1 hoj).1
      have hdj' : (waitsForC md ops cc k).getD j false = false := hdj
      simp only [hoj, hj, hdj', hh, Bool.or_false, Bool.false_or, Bool.or_eq_true, beq_iff_eq] at h1
      exact h1.resolve_left hjk
    have h' : wpOp P ops Q k (fun a' w' => Keep (fun i => marks.contains i) k w w' ∧ wpOrd P ops Q (fun i => marks.contains i) ord a' w') a w := h
    simp only [besideF, Bool.and_eq_true, Bool.or_eq_true] at hfree
    by_cases hp : pureI P is o.op = true
    · rw [if_pos hp] at hB'
      have hpe : PureEx P (execOp a.eval o) := by
        simp only [pureI, Bool.or_eq_true] at hp
        rcases hp with hp | hp
        · exact pureEx_op _ _ hp
        · exact pureEx_int hI o hp
      obtain ⟨v, hy, hK⟩ := wpOp_pure hb h0 hpe h'
      refine wpAnyF_rd hb (C := fun _ => True) (fun _ _ _ _ => trivial) h0 (Region.noSelect_spec hs) hd _ _ _ _ hinv
        (fun j hj hjk hdj hh oj hoj => ⟨(hfree j hj hjk hdj hh oj hoj).1, .inl (.inl fun _ => trivial)⟩) hready hmi trivial hy
        (serialF_lex hb hs n marks ord _ _ _ _ (hI.put o v fun hg hgi => ?_) hB' hK.2)
      rcases hy with ⟨_, hv⟩ | ⟨hw, rfl⟩
      · exact givesI_spec hI o hgi (hv w trivial)
      · exfalso
        unfold Region.wanted at hw
        cases hgd : o.guard with
        | none => rw [hgd] at hw; cases hw
        | some g => rw [hgd] at hg; cases hg
    · rw [if_neg hp] at hB'
      have h2 := wpOp_tmps hb h0 h'
      have H : wpOp P ops Q k (fun a' w' => Keep (fun i => marks.contains i) k w w' ∧ wpAnyF P md ops Q (fun i => marks.contains i) cc ord.length (listed.setIfInBounds k true) a' w') a w :=
        wpOp_mono (fun a' w' hk => ⟨hk.1.1, by
          obtain ⟨v, hv⟩ := hk.2
          exact serialF_lex hb hs n marks ord _ _ a' w' ((leftI_put hI o v).of_tmps hv) hB' hk.1.2⟩) h2
      have hpo : pureOp P o.op ≠ true := fun hc => hp (by simp [pureI, hc])
      by_cases hrd : readOp P o.op = true
      · obtain ⟨v, hy, hK⟩ := wpOp_rd hb h0 (rdEx_op _ _ hrd) H
        exact wpAnyF_rd hb (C := Ext w) (fun _ _ h k => h.trans k) h0 (Region.noSelect_spec hs) hd _ _ _ _ hinv
          (fun j hj hjk hdj hh oj hoj => ⟨(hfree j hj hjk hdj hh oj hoj).1, by
            rcases (hfree j hj hjk hdj hh oj hoj).2 with (h1 | h1) | h1
            · exact absurd h1 hp
            · exact .inl (.inr fun ρ => (pureEx_op _ _ h1).rd.meek)
            · rcases h1.2 with h1 | h1
              · exact .inl (.inr fun ρ => meekEx_op _ _ h1)
              · exact .inr h1⟩) hready hmi (Ext.refl _) hy hK.2
      · exact wpAnyF_eff hb h0 (Region.noSelect_spec hs) hd _ _ _ _ hinv
          (fun j hj hjk hdj hh oj hoj => ⟨(hfree j hj hjk hdj hh oj hoj).1, fun ρ => by
            rcases (hfree j hj hjk hdj hh oj hoj).2 with (h1 | h1) | h1
            · exact absurd h1 hp
            · exact pureEx_op _ _ h1
            · exact absurd h1.1 hrd⟩) hready hmi H

/-! ### how it is walked -/
theorem wp_swapQ (hb : NoBad Q) {K K2 : Act → World → Prop} {o : Oper} {a : Act} {w : World} (h : o.wp P a w K (Exit.then K2 Q)) : o.wp P a w K Q := by
  unfold Oper.wp at *
  generalize (execOp a.eval o).run P w = r at *
  cases r with
  | ok n w' =>
    cases n <;> simp only [Oper.upon] at h ⊢
    case value u => exact h
    case skip => exact h
    case defer d => exact h
    case enter f args =>
      refine Calls.mono h fun e w'' he => ?_
      cases e with
      | returned u => exact he
      | panicked c => exact absurd he (hb.pan _ _ _)
      | outgrown => exact absurd he (NoBad.then hb).lets
    case row row args => exact h
  | halt x w' =>
    cases x <;> simp only [Oper.upon] at h ⊢
    exact absurd h (hb.pan _ _ _)
theorem wpOrd_list (hb : NoBad Q) {K : Act → World → Prop} (rest : List Nat) (hK : ∀ a w, K a w → wpOrd P ops Q F rest a w) : ∀ (ord : List Nat) (l : List Oper) (a : Act) (w : World), (∀ i ∈ ord, F i = false) → ord.map (ops[·]?) = l.map some →
    wpList P ops (Exit.then K Q) l a w → wpOrd P ops Q F (ord ++ rest) a w
  | [], l, a, w, _, hl, h => by
    obtain rfl : l = [] := by simpa using hl.symm
    exact hK _ _ h
  | k :: ord, l, a, w, hF, hl, h => by
    match l, hl with
    | o :: l, hl =>
      simp only [List.map_cons, List.cons.injEq] at hl
      show wpOp P ops Q k _ a w
      have hih : ∀ a' w', wpList P ops (Exit.then K Q) l a' w' → Keep F k w w' ∧ wpOrd P ops Q F (ord ++ rest) a' w' := fun a' w' h =>
        ⟨fun hc => (by rw [hF k (by simp)] at hc; cases hc), wpOrd_list hb rest hK ord l a' w' (fun i hi => hF i (by simp [hi])) hl.2 h⟩
      have hih0 : ∀ a' w', wpList P ops (Exit.then K Q) l a' w' → (fun a' w' => Keep F k w w' ∧ wpOrd P ops Q F (ord ++ rest) a' w') a' w' := hih
      unfold Go.wpOp
      simp only [hl.1]
      simp only [wpList] at h
      split
      · rename_i hw
        rw [if_pos hw] at h
        rcases h with h | h
        · exact .inl (Oper.wp_mono hih0 (wp_swapQ hb h))
        · exact absurd h.2 (NoBad.then hb).lets
      · rename_i hw
        rw [if_neg hw] at h
        exact hih _ _ h
theorem wpOrd_mark (hb : NoBad Q) (k : Nat) (c : Oper) (rest : List Nat) (hc : ops[k]? = some c) {K : World → Act → World → Prop} (hK : ∀ w a' w', K w a' w' → Ext w w' ∧ wpOrd P ops Q F rest a' w') {a : Act} {w : World}
    (h : wpList P ops (Exit.then (K w) Q) [c] a w) : wpOrd P ops Q F (k :: rest) a w := by
  show wpOp P ops Q k _ a w
  have hih : ∀ a' w', wpList P ops (Exit.then (K w) Q) [] a' w' → (fun a' w' => Keep F k w w' ∧ wpOrd P ops Q F rest a' w') a' w' := fun a' w' h => by
    have h1 : K w a' w' := h
    exact ⟨fun _ => (hK _ _ _ h1).1, (hK _ _ _ h1).2⟩
  unfold Go.wpOp
  simp only [hc]
  simp only [wpList] at h
  split
  · rename_i hw
    rw [if_pos hw] at h
    rcases h with h | h
    · exact .inl (Oper.wp_mono (fun a' w' k => hih a' w' (by simpa only [wpList] using k)) (wp_swapQ hb h))
    · exact absurd h.2 (NoBad.then hb).lets
  · rename_i hw
    rw [if_neg hw] at h
    exact hih _ _ (by simpa only [wpList] using h)
theorem wpOrd_last (hb : NoBad Q) : ∀ (ord : List Nat) (l : List Oper) (a : Act) (w : World), (∀ i ∈ ord, F i = false) → ord.map (ops[·]?) = l.map some → wpList P ops Q l a w → wpOrd P ops Q F ord a w
  | [], l, a, w, _, hl, h => by
    obtain rfl : l = [] := by simpa using hl.symm
    exact h
  | k :: ord, l, a, w, hF, hl, h => by
    match l, hl with
    | o :: l, hl =>
      simp only [List.map_cons, List.cons.injEq] at hl
      show wpOp P ops Q k _ a w
      have hih : ∀ a' w', wpList P ops Q l a' w' → (fun a' w' => Keep F k w w' ∧ wpOrd P ops Q F ord a' w') a' w' := fun a' w' h =>
        ⟨fun hc => (by rw [hF k (by simp)] at hc; cases hc), wpOrd_last hb ord l a' w' (fun i hi => hF i (by simp [hi])) hl.2 h⟩
      unfold Go.wpOp
      simp only [hl.1]
      simp only [wpList] at h
      split
      · rename_i hw
        rw [if_pos hw] at h
        exact orMap h (Oper.wp_mono hih) id
      · rename_i hw
        rw [if_neg hw] at h
        exact hih _ _ h
/-- the walk: up to each marked operation, it, and on -/
def wpSegs (P : Program) (ops : Array Oper) (Q : Exit → Act → World → Prop) : List (List Oper × Oper) → List Oper → Act → World → Prop
  | [], l => wpList P ops Q l
  | (l1, c) :: r, l => wpList P ops (Exit.then (fun a1 w1 => wpList P ops (Exit.then (fun a2 w2 => Ext w1 w2 ∧ wpSegs P ops Q r l a2 w2) Q) [c] a1 w1) Q) l1
def segOrd (segs : List (List Nat × Nat)) (last : List Nat) : List Nat := segs.foldr (fun s acc => s.1 ++ (s.2 :: acc)) last
def serial3 (P : Program) (ops : Array Oper) (c : List (Nat × Nat)) (n : Nat) (is : List Nat) (segs : List (List Nat × Nat)) (last : List Nat) : Bool :=
  Region.noSelect ops && serialF P .any ops c n (segs.map (·.2)) (segOrd segs last) is (Array.replicate ops.size false) && (segOrd segs last).length == ops.size
  && segs.all (fun s => s.1.all fun i => !(segs.map (·.2)).contains i) && last.all fun i => !(segs.map (·.2)).contains i
theorem wpSegs_ord (hb : NoBad Q) (last : List Nat) (lL : List Oper) (hL : last.map (ops[·]?) = lL.map some) (hFL : ∀ i ∈ last, F i = false) : ∀ (segs : List (List Nat × Nat)) (lS : List (List Oper × Oper)) (a : Act) (w : World),
    (∀ s ∈ segs, ∀ i ∈ s.1, F i = false) → segs.map (fun s => (s.1.map (ops[·]?), ops[s.2]?)) = lS.map (fun s => (s.1.map some, some s.2)) → wpSegs P ops Q lS lL a w → wpOrd P ops Q F (segOrd segs last) a w
  | [], lS, a, w, _, hS, h => by
    obtain rfl : lS = [] := by simpa using hS.symm
    exact wpOrd_last hb last lL a w hFL hL h
  | s :: segs, lS, a, w, hF, hS, h => by
    match lS, hS with
    | (l1, c) :: lS, hS =>
      simp only [List.map_cons, List.cons.injEq, Prod.mk.injEq] at hS
      refine wpOrd_list hb (s.2 :: segOrd segs last) (fun a1 w1 h1 => ?_) s.1 l1 a w (hF s (by simp)) hS.1.1 h
      exact wpOrd_mark hb s.2 c (segOrd segs last) hS.1.2 (K := fun w1 a2 w2 => Ext w1 w2 ∧ wpSegs P ops Q lS lL a2 w2) (fun w a' w' hk => ⟨hk.1, wpSegs_ord hb last lL hL hFL segs lS a' w' (fun s hs => hF s (by simp [hs])) hS.2 hk.2⟩) h1
theorem serial3_any (n : Nat) (is : List Nat) (segs : List (List Nat × Nat)) (last : List Nat) {a : Act} {w : World} (lS : List (List Oper × Oper)) (lL : List Oper)
    (hB : serial3 P ops cc n is segs last = true) (hS : segs.map (fun s => (s.1.map (ops[·]?), ops[s.2]?)) = lS.map (fun s => (s.1.map some, some s.2))) (hL : last.map (ops[·]?) = lL.map some)
    (hI : KnowsI n is a) (hb : NoBad Q) (h : wpSegs P ops Q lS lL a w) : wpAnyC P .any ops Q cc ops.size (Array.replicate ops.size false) a w := by
  simp only [serial3, Bool.and_eq_true, beq_iff_eq, List.all_eq_true, Bool.not_eq_true'] at hB
  obtain ⟨⟨⟨⟨hs, hF⟩, hlen⟩, h1⟩, h2⟩ := hB
  have := serialF_lex (md := .any) hb hs n (segs.map (·.2)) (segOrd segs last) is _ a w hI hF (wpSegs_ord hb last lL hL h2 segs lS a w h1 hS h)
  rw [hlen] at this
  exact this.any
theorem obeys_nil : ∀ (l : List Nat) (L : Array Bool), obeys [] L l = true
  | [], _ => rfl
  | i :: l, L => by simp only [obeys, mayC, List.all_nil, Bool.true_and]; exact obeys_nil l _
theorem obeys_app (c d : List (Nat × Nat)) : ∀ (l : List Nat) (L : Array Bool), obeys c L l = true → obeys d L l = true → obeys (c ++ d) L l = true
  | [], _, _, _ => rfl
  | i :: l, L, h, k => by
    simp only [obeys, mayC, List.all_append, Bool.and_eq_true] at *
    exact ⟨⟨h.1, k.1⟩, obeys_app c d l _ h.2 k.2⟩
/-- where x may stand among cs -/
def places (x : Nat) : List Nat → List (Nat × Nat) → List (List (Nat × Nat))
  | [], c => [c]
  | k :: cs, c => (c ++ [(k, x)]) :: places x cs (c ++ [(x, k)])
theorem places_all (x : Nat) : ∀ (cs : List Nat) (c : List (Nat × Nat)) (l : List Nat) (L : Array Bool), (∀ k ∈ cs, x ≠ k) → (∀ i ∈ l, i < L.size) → obeys c L l = true → ∃ d ∈ places x cs c, obeys d L l = true
  | [], c, l, L, _, _, h => ⟨c, by simp [places], h⟩
  | k :: cs, c, l, L, hx, hL, h => by
    rcases obeys_or (hx k (by simp)) l L hL with h1 | h1
    · obtain ⟨d, hd, h2⟩ := places_all x cs (c ++ [(x, k)]) l L (fun i hi => hx i (by simp [hi])) hL (obeys_app _ _ _ _ h h1)
      exact ⟨d, by simp [places, hd], h2⟩
    · exact ⟨c ++ [(k, x)], by simp [places], obeys_app _ _ _ _ h h1⟩
theorem wp_places (x : Nat) (cs : List Nat) {id : Nat} {a : Act} {w : World} {l : List Oper} (hm : P.follows .mixedOrders = true) (hx : cs.all (· != x) = true)
    (h : ∀ d ∈ places x cs [], wpAnyC P .any l.toArray Q d l.toArray.size (Array.replicate l.toArray.size false) a w.drew) : (Code.region id l.toArray true).wp P Q a w := by
  refine wp_region_draw fun t => ?_
  simp only [Region.schedule, hm, Bool.true_or, if_true]
  change wpOps P l.toArray Q (Region.linearise.go .any l.toArray l.toArray.size t (Array.replicate l.toArray.size false) []) a w.drew
  have hlt := lin_lt (md := .any) (ops := l.toArray) l.toArray.size t (Array.replicate l.toArray.size false) (by simp)
  obtain ⟨d, hd, h2⟩ := places_all x cs [] _ (Array.replicate l.toArray.size false) (fun k hk => by have := List.all_eq_true.1 hx k hk; simp at this; exact Ne.symm this) (fun i hi => by simpa using hlt i hi) (obeys_nil (Region.linearise.go .any l.toArray l.toArray.size t (Array.replicate l.toArray.size false) []) _)
  exact wpAnyC_sound _ t _ _ _ h2 (h d hd)
/-- **one order for all** -/
theorem wp_serial3 (n : Nat) (is : List Nat) (segs : List (List Nat × Nat)) (last : List Nat) {id : Nat} {a : Act} {w : World} {l : List Oper} (lS : List (List Oper × Oper)) (lL : List Oper) (hm : P.follows .mixedOrders = true)
    (hB : serial3 P l.toArray [] n is segs last = true) (hS : segs.map (fun s => (s.1.map (l.toArray[·]?), l.toArray[s.2]?)) = lS.map (fun s => (s.1.map some, some s.2))) (hL : last.map (l.toArray[·]?) = lL.map some)
    (hI : KnowsI n is a) (hb : NoBad Q) (h : wpSegs P l.toArray Q lS lL a w.drew) : (Code.region id l.toArray true).wp P Q a w :=
  wp_places 0 [] hm rfl fun d hd => by
    obtain rfl : d = [] := by simpa [places] using hd
    exact serial3_any n is segs last lS lL hB hS hL (hI.of_tmps rfl) hb h
/-- **one operation x that may stand anywhere among the chain cs: a walk for each place** -/
def wpAll (P : Program) (ops : Array Oper) (Q : Exit → Act → World → Prop) (a : Act) (w : World) : List (List Oper) → Prop
  | [] => True
  | l :: r => wpList P ops Q l a w ∧ wpAll P ops Q a w r
theorem wp_serial4 (n : Nat) (is : List Nat) (x : Nat) (cs : List Nat) (ords : List (List Nat)) {id : Nat} {a : Act} {w : World} {l : List Oper} (lS : List (List Oper)) (hm : P.follows .mixedOrders = true)
    (hB : (cs.all (· != x) && (ords.length == (places x cs []).length) && ((places x cs []).zip ords).all fun p => serial3 P l.toArray p.1 n is [] p.2) = true) (hS : ords.map (fun o => o.map (l.toArray[·]?)) = lS.map (fun s => s.map some))
    (hI : KnowsI n is a) (hb : NoBad Q) (h : wpAll P l.toArray Q a w.drew lS) : (Code.region id l.toArray true).wp P Q a w := by
  simp only [Bool.and_eq_true, beq_iff_eq] at hB
  obtain ⟨⟨h1, h2⟩, h3⟩ := hB
  refine wp_places x cs hm h1 ?_
  generalize places x cs [] = ds at h2 h3 ⊢
  induction ds generalizing ords lS with
  | nil => intro d hd; cases hd
  | cons d ds ih =>
    match ords, h2 with
    | o :: ords, h2 =>
      match lS, hS with
      | l1 :: lS, hS =>
        simp only [List.map_cons, List.cons.injEq] at hS
        simp only [List.zip_cons_cons, List.all_cons, Bool.and_eq_true] at h3
        intro d' hd'
        rcases List.mem_cons.1 hd' with rfl | hd'
        · exact serial3_any n is [] o [] l1 h3.1 rfl hS.1 (hI.of_tmps rfl) hb h.1
        · exact ih ords lS hS.2 h.2 (by simpa using h2) h3.2 d' hd'
theorem wp_serial3_0 (n : Nat) (is last : List Nat) {id : Nat} {a : Act} {w : World} {l : List Oper} (lL : List Oper) (hm : P.follows .mixedOrders = true)
    (hB : serial3 P l.toArray [] n is [] last = true) (hL : last.map (l.toArray[·]?) = lL.map some)
    (hI : KnowsI n is a) (hb : NoBad Q) (h : wpList P l.toArray Q lL a w.drew) : (Code.region id l.toArray true).wp P Q a w :=
  wp_serial3 n is [] last [] lL hm hB rfl hL hI hb h
theorem wp_serial3_1 (n : Nat) (is : List Nat) (s1 : List Nat) (k1 : Nat) (last : List Nat) {id : Nat} {a : Act} {w : World} {l : List Oper} (l1 : List Oper) (c1 : Oper) (lL : List Oper) (hm : P.follows .mixedOrders = true)
    (hB : serial3 P l.toArray [] n is [(s1, k1)] last = true) (h1 : s1.map (l.toArray[·]?) = l1.map some) (hc1 : l.toArray[k1]? = some c1) (hL : last.map (l.toArray[·]?) = lL.map some)
    (hI : KnowsI n is a) (hb : NoBad Q) (h : wpList P l.toArray (Exit.then (fun a1 w1 => wpList P l.toArray (Exit.then (fun a2 w2 => Ext w1 w2 ∧ wpList P l.toArray Q lL a2 w2) Q) [c1] a1 w1) Q) l1 a w.drew) : (Code.region id l.toArray true).wp P Q a w :=
  wp_serial3 n is [(s1, k1)] last [(l1, c1)] lL hm hB (by simp only [List.map_cons, List.map_nil, h1, hc1]) hL hI hb h
theorem wp_serial3_2 (n : Nat) (is : List Nat) (s1 : List Nat) (k1 : Nat) (s2 : List Nat) (k2 : Nat) (last : List Nat) {id : Nat} {a : Act} {w : World} {l : List Oper} (l1 : List Oper) (c1 : Oper) (l2 : List Oper) (c2 : Oper) (lL : List Oper) (hm : P.follows .mixedOrders = true)
    (hB : serial3 P l.toArray [] n is [(s1, k1), (s2, k2)] last = true) (h1 : s1.map (l.toArray[·]?) = l1.map some) (hc1 : l.toArray[k1]? = some c1) (h2 : s2.map (l.toArray[·]?) = l2.map some) (hc2 : l.toArray[k2]? = some c2) (hL : last.map (l.toArray[·]?) = lL.map some)
    (hI : KnowsI n is a) (hb : NoBad Q) (h : wpList P l.toArray (Exit.then (fun a1 w1 => wpList P l.toArray (Exit.then (fun a2 w2 => Ext w1 w2 ∧ wpList P l.toArray (Exit.then (fun a1 w1 => wpList P l.toArray (Exit.then (fun a2 w2 => Ext w1 w2 ∧ wpList P l.toArray Q lL a2 w2) Q) [c2] a1 w1) Q) l2 a2 w2) Q) [c1] a1 w1) Q) l1 a w.drew) : (Code.region id l.toArray true).wp P Q a w :=
  wp_serial3 n is [(s1, k1), (s2, k2)] last [(l1, c1), (l2, c2)] lL hm hB (by simp only [List.map_cons, List.map_nil, h1, hc1, h2, hc2]) hL hI hb h
end
end Go.Proofs.Ytijmbpokglohbaa

namespace Go.Proofs.Ytijmbpokglohbaa.S5
set_option linter.unusedSimpArgs false
set_option linter.unusedVariables false

section
variable {P : Program} {md : Region.Mode} {ops : Array Oper} {Q : Exit → Act → World → Prop}
def Keep (F : Nat → Bool) (i : Nat) (w w' : World) : Prop := F i = true → Ext w w'
theorem Keep.refl {F : Nat → Bool} {i : Nat} (w : World) : Keep F i w w := fun _ => Ext.refl w
def wpAnyF (P : Program) (md : Region.Mode) (ops : Array Oper) (Q : Exit → Act → World → Prop) (F : Nat → Bool) (cc : List (Nat × Nat)) : Nat → Array Bool → Act → World → Prop
  | 0, listed, a, w => Region.ready md ops listed = [] ∧ Q .normal a w
  | fuel + 1, listed, a, w =>
    (Region.ready md ops listed = [] → Q .normal a w) ∧
    ∀ i ∈ Region.ready md ops listed, mayC cc listed i = true → wpOp P ops Q i (fun a' w' => Keep F i w w' ∧ wpAnyF P md ops Q F cc fuel (listed.setIfInBounds i true) a' w') a w
variable {cc : List (Nat × Nat)}
theorem wpAnyF.any {F : Nat → Bool} : ∀ (fuel : Nat) (listed : Array Bool) (a : Act) (w : World), wpAnyF P md ops Q F cc fuel listed a w → wpAnyC P md ops Q cc fuel listed a w
  | 0, _, _, _, h => h
  | fuel + 1, listed, a, w, h => ⟨h.1, fun i hi hm => wpOp_mono (fun a' w' k => wpAnyF.any fuel _ a' w' k.2) (h.2 i hi hm)⟩
/-- an operation beside a reading, whose end tells that the reading still stands -/
theorem wpOp_putK (hb : NoBad Q) {C : World → Prop} {j : Nat} {oi oj : Oper} {v : Value} (hj : ops[j]? = some oj) (hap : oi.apart ops oj = true)
    (hsi : ∀ cs b, oi.op ≠ .select cs b) (hsj : ∀ cs b, oj.op ≠ .select cs b) {K : Act → World → Prop} {a : Act} {w : World} (hCw : C w)
    (hm : ∀ a' w', K a' w' → C w')
    (hy : YieldsC P ops C oi v a) (h : wpOp P ops Q j K (a.put oi.dst v) w) :
    wpOp P ops Q j (fun a' w' => C w' ∧ YieldsC P ops C oi v a' ∧ K (a'.put oi.dst v) w') a w := by
  obtain ⟨h1, h2, h3⟩ := Oper.apart_spec hap
  have keep : ∀ (a : Act), YieldsC P ops C oi v a → ∀ u, YieldsC P ops C oi v (a.put oj.dst u) := fun a hy u =>
    hy.of_same (execOp_put oi hsi a oj.dst u h3) (wanted_put oi a oj.dst u h3)
  have keepD : ∀ d, YieldsC P ops C oi v { a with defers := d :: a.defers } := fun d => hy.of_same rfl rfl
  unfold Go.wpOp at *
  simp only [hj] at *
  rw [wanted_put oj a oi.dst v h1] at h
  split at h
  · rename_i hw
    rw [if_pos hw]
    rcases h with h | ⟨_, h⟩
    case inr => exact absurd h hb.lets
    refine .inl ?_
    unfold Oper.wp at *
    rw [execOp_put oj hsj a oi.dst v h1] at h
    cases hrun : (execOp a.eval oj).run P w with
    | ok n w' =>
      rw [hrun] at h
      cases n <;> simp only [Oper.upon] at h ⊢
      case value u => exact ⟨hm _ _ h, keep a hy u, by rw [← Act.put_comm a v u h2]; exact h⟩
      case skip => exact ⟨hm _ _ h, keep a hy _, by rw [← Act.put_comm a v undef h2]; exact h⟩
      case defer d =>
        refine ⟨hm _ _ h, keep _ (keepD d) _, ?_⟩
        rw [← Act.put_comm _ v undef h2, ← Act.put_defers]
        exact h
      case enter f args =>
        refine Calls.mono h fun e w'' he => ?_
        cases e with
        | returned u => exact ⟨hm _ _ he, keep a hy u, by rw [← Act.put_comm a v u h2]; exact he⟩
        | panicked c => exact absurd he (hb.pan _ _ _)
        | outgrown => exact he
      case row row args => exact Rows.mono h fun u w'' he => ⟨hm _ _ he, keep a hy u, by rw [← Act.put_comm a v u h2]; exact he⟩
    | halt x w' =>
      rw [hrun] at h
      cases x <;> simp only [Oper.upon] at h ⊢
      exact absurd h (hb.pan _ _ _)
  · rename_i hw
    rw [if_neg hw]
    exact ⟨hCw, keep a hy _, by rw [← Act.put_comm a v undef h2]; exact h⟩
/-- what can't come as long as i has not: it waits for i, or for what does, by the region's rules or by those of cc -/
def WaitsC (md : Region.Mode) (ops : Array Oper) (c : List (Nat × Nat)) (i : Nat) (d : Nat → Bool) : Prop :=
  ∀ j oj, ops[j]? = some oj → d j = true → (∃ e ∈ oj.after, Region.binds md e = true ∧ (e.on = i ∨ d e.on = true)) ∨ held c i j = true
theorem not_waitsC {i : Nat} {d : Nat → Bool} (hd : WaitsC md ops cc i d) {listed : Array Bool} (hu : listed.getD i true = false) (hinv : ∀ j, d j = true → listed.getD j false = false) {j : Nat}
    (hj : j ∈ Region.ready md ops listed) (hm : mayC cc listed j = true) : d j = false := by
  cases hdj : d j with
  | false => rfl
  | true =>
    obtain ⟨_, oj, hoj, hall⟩ := mem_ready.1 hj
    rcases hd j oj hoj hdj with ⟨e, he, hb, h⟩ | h
    · have h1 := hall e he hb
      rcases h with h | h
      · rw [h] at h1
        rcases Nat.lt_or_ge i listed.size with h' | h'
        · simp [h'] at hu h1; rw [hu] at h1; cases h1
        · simp [Array.getElem?_eq_none h'] at h1
      · rw [hinv _ h] at h1; cases h1
    · rw [held_no hu hm] at h; cases h
variable {F : Nat → Bool}
theorem wpAnyF_rd (hb : NoBad Q) {C : World → Prop} (hC : ∀ u u', C u → Ext u u' → C u') {i : Nat} {oi : Oper} {v : Value} {d : Nat → Bool} (hi : ops[i]? = some oi)
    (hsel : ∀ (j : Nat) (o : Oper) cs b, ops[j]? = some o → o.op ≠ .select cs b) (hd : WaitsC md ops cc i d) :
    ∀ (fuel : Nat) (listed : Array Bool) (a : Act) (w : World), (∀ j, d j = true → listed.getD j false = false) → (∀ j, listed.getD j true = false → j ≠ i → d j = false → held cc i j = false → ∀ oj, ops[j]? = some oj → oi.apart ops oj = true ∧ (((∀ u, C u) ∨ ∀ ρ, MeekEx P (execOp ρ oj)) ∨ F j = true)) →
      i ∈ Region.ready md ops listed → mayC cc listed i = true → C w → YieldsC P ops C oi v a →
      wpAnyF P md ops Q F cc fuel (listed.setIfInBounds i true) (a.put oi.dst v) w → wpAnyF P md ops Q F cc (fuel + 1) listed a w := by
  intro fuel
  induction fuel with
  | zero =>
    intro listed a w _ _ hr hmi hCw hy H
    refine ⟨fun h => (by rw [h] at hr; cases hr), fun j hj hcj => ?_⟩
    by_cases hji : j = i
    · subst hji; exact hy.wpOp hi hCw ⟨Keep.refl w, H⟩
    · have := ready_mono hj hji
      rw [H.1] at this
      cases this
  | succ fuel ih =>
    intro listed a w hinv hf hr hmi hCw hy H
    refine ⟨fun h => (by rw [h] at hr; cases hr), fun j hj hcj => ?_⟩
    by_cases hji : j = i
    · subst hji; exact hy.wpOp hi hCw ⟨Keep.refl w, H⟩
    · have h1 := H.2 j (ready_mono hj hji) (mayC_mono _ hcj)
      obtain ⟨hjun, oj, hoj, hall⟩ := mem_ready.1 hj
      have hdj := not_waitsC hd (mem_ready.1 hr).1 hinv hj hcj
      obtain ⟨hap, hm⟩ := hf j hjun hji hdj (held_no (mem_ready.1 hr).1 hcj) oj hoj
      have h2 : wpOp P ops Q j (fun a' w' => C w' ∧ YieldsC P ops C oi v a' ∧ (Keep F j w w' ∧ wpAnyF P md ops Q F cc fuel ((listed.setIfInBounds i true).setIfInBounds j true) (a'.put oi.dst v) w')) a w := by
        rcases hm with hm | hm
        · exact wpOp_putC hb hC hoj hap (fun cs b => hsel i oi cs b hi) (fun cs b => hsel j oj cs b hoj) hCw (orMap hm id fun h => h _) hy h1
        · exact wpOp_putK hb hoj hap (fun cs b => hsel i oi cs b hi) (fun cs b => hsel j oj cs b hoj) hCw (fun a' w' hk => hC _ _ hCw (hk.1 hm)) hy h1
      refine wpOp_mono (fun a' w' h3 => ⟨h3.2.2.1, ih (listed.setIfInBounds j true) a' w' (inv_set hinv hdj) (fun k hk hki hdk hhk ok hok => ?_) (ready_mono hr (Ne.symm hji)) (mayC_mono _ hmi) h3.1 h3.2.1 ?_⟩) h2
      · by_cases hjk : j = k
        · subst hjk; exact hf j hjun hki hdk hhk ok hok
        · rw [getD_set_ne true hjk] at hk; exact hf k hk hki hdk hhk ok hok
      · rw [Array.setIfInBounds_comm _ _ hji]
        exact h3.2.2.2
theorem wpAnyF_eff (hb : NoBad Q) {i : Nat} {oi : Oper} {d : Nat → Bool} (hi : ops[i]? = some oi)
    (hsel : ∀ (j : Nat) (o : Oper) cs b, ops[j]? = some o → o.op ≠ .select cs b) (hd : WaitsC md ops cc i d) :
    ∀ (fuel : Nat) (listed : Array Bool) (a : Act) (w : World), (∀ j, d j = true → listed.getD j false = false) → (∀ j, listed.getD j true = false → j ≠ i → d j = false → held cc i j = false → ∀ oj, ops[j]? = some oj → oi.apart ops oj = true ∧ ∀ ρ, PureEx P (execOp ρ oj)) →
      i ∈ Region.ready md ops listed → mayC cc listed i = true →
      wpOp P ops Q i (fun a' w' => Keep F i w w' ∧ wpAnyF P md ops Q F cc fuel (listed.setIfInBounds i true) a' w') a w → wpAnyF P md ops Q F cc (fuel + 1) listed a w := by
  intro fuel
  induction fuel with
  | zero =>
    intro listed a w _ _ hr hmi H
    refine ⟨fun h => (by rw [h] at hr; cases hr), fun j hj hcj => ?_⟩
    by_cases hji : j = i
    · subst hji; exact H
    · obtain ⟨a1, w1, h1⟩ := wpOp_some hb hi H
      have := ready_mono hj hji
      rw [h1.2.1] at this
      cases this
  | succ fuel ih =>
    intro listed a w hinv hf hr hmi H
    refine ⟨fun h => (by rw [h] at hr; cases hr), fun j hj hcj => ?_⟩
    by_cases hji : j = i
    · subst hji; exact H
    · obtain ⟨hjun, oj, hoj, hall⟩ := mem_ready.1 hj
      have hdj := not_waitsC hd (mem_ready.1 hr).1 hinv hj hcj
      obtain ⟨hap, hpu⟩ := hf j hjun hji hdj (held_no (mem_ready.1 hr).1 hcj) oj hoj
      obtain ⟨p1, p2, p3⟩ := Oper.apart_spec hap
      have H' := wpOp_tmps hb hi H
      have hsame : ∀ a1 : Act, (∃ v, a1.tmps = (a.put oi.dst v).tmps) → execOp a1.eval oj = execOp a.eval oj ∧ Region.wanted oj (yielded ops a1.tmps) = Region.wanted oj (yielded ops a.tmps) := by
        rintro a1 ⟨v, hv⟩
        have he : a1.eval = (a.put oi.dst v).eval := by funext x; cases x <;> simp only [Act.eval, hv]
        rw [he, hv]
        exact ⟨execOp_put oj (fun cs b => hsel j oj cs b hoj) a oi.dst v p1, wanted_put oj a oi.dst v p1⟩
      obtain ⟨a1, w1, h1, ht⟩ := wpOp_some hb hi H'
      obtain ⟨u, hy1, _⟩ := wpOp_pure hb hoj (hpu _) (h1.2.2 j (ready_mono hj hji) (mayC_mono _ hcj))
      have hy : YieldsC P ops (fun _ => True) oj u a := hy1.of_same (hsame a1 ht).1.symm (hsame a1 ht).2.symm
      refine hy.wpOp hoj trivial ⟨Keep.refl w, ?_⟩
      refine ih (listed.setIfInBounds j true) (a.put oj.dst u) w (inv_set hinv hdj) (fun k hk hki hdk hhk ok hok => ?_) (ready_mono hr (Ne.symm hji)) (mayC_mono _ hmi) ?_
      · by_cases hjk : j = k
        · subst hjk; exact hf j hjun hki hdk hhk ok hok
        · rw [getD_set_ne true hjk] at hk; exact hf k hk hki hdk hhk ok hok
      · refine wpOp_back hb hi hap (fun cs b => hsel i oi cs b hi) (wpOp_mono (fun a2 w2 ⟨h2, ht2⟩ => ?_) H')
        obtain ⟨u', hy2, h3⟩ := wpOp_pure hb hoj (hpu _) (h2.2.2 j (ready_mono hj hji) (mayC_mono _ hcj))
        have hy2' : YieldsC P ops (fun _ => True) oj u' a := hy2.of_same (hsame a2 ht2).1.symm (hsame a2 ht2).2.symm
        have huu : u' = u := by
          rcases hy with ⟨hw, hv⟩ | ⟨hw, rfl⟩ <;> rcases hy2' with ⟨hw', hv'⟩ | ⟨hw', rfl⟩
          · have := (hv w trivial).symm.trans (hv' w trivial); simp only [Result.ok.injEq, Next.value.injEq, and_true] at this; exact this.symm
          · rw [hw] at hw'; cases hw'
          · rw [hw] at hw'; cases hw'
          · rfl
        rw [huu, Array.setIfInBounds_comm _ _ (Ne.symm hji)] at h3
        exact ⟨h2.1, h3.2⟩

theorem getD_put_ne {α : Type} (xs : Array α) (i j : Nat) (x d : α) (h : i ≠ j) : (xs.setIfInBounds i x).getD j d = xs.getD j d := by
  simp [Array.getD_eq_getD_getElem?, Array.getElem?_setIfInBounds, h]
/-! ### whole numbers -/
def isI : Value → Bool
  | .int _ _ => true
  | _ => false
def opI (is : List Nat) : Operand → Bool
  | .tmp t => is.contains t
  | .const v => isI v
  | _ => false
def intT (P : Program) (t : TypeId) : Bool := match P.underlying t with
  | some (.int _) => true
  | _ => false
def strT (P : Program) (t : TypeId) : Bool := match P.underlying t with
  | some .string => true
  | _ => false
def intOp (P : Program) (is : List Nat) : Op → Bool
  | .binOp _ _ x y _ => opI is x && opI is y
  | .convert s d x => intT P s && intT P d && opI is x
  | _ => false
def givesI (P : Program) (is : List Nat) : Op → Bool
  | .convert s d x => intT P s && intT P d && opI is x
  | .index t _ _ => strT P t
  | .move x | .assign x => opI is x
  | .binOp bo _ x y _ => opI is x && opI is y && (match bo with | .add | .sub | .mul | .quo | .rem | .and | .or | .xor | .andNot | .shl | .shr => true | _ => false)
  | _ => false
def nextI (P : Program) (n : Nat) (is : List Nat) (o : Oper) : List Nat := match o.dst with
  | none => is
  | some d => if o.guard.isNone && decide (d < n) && givesI P is o.op then d :: is else is.filter (· != d)
abbrev KnowsI (n : Nat) (is : List Nat) (a : Act) : Prop := n ≤ a.tmps.size ∧ ∀ s ∈ is, isI (a.eval (.tmp s)) = true
theorem KnowsI.op {n : Nat} {is : List Nat} {a : Act} (h : KnowsI n is a) {x : Operand} (hx : opI is x = true) : ∃ k z, a.eval x = .int k z := by
  have : isI (a.eval x) = true := by
    cases x with
    | tmp t => exact h.2 t (by simpa [opI] using hx)
    | const v => exact hx
    | _ => cases hx
  cases hv : a.eval x <;> rw [hv] at this <;> first | cases this | skip
  exact ⟨_, _, rfl⟩
theorem calm_eqGuardI (o : BinOp) (t : TypeId) (x y : Operand) (k l : IntKind) (m n : Int) : Calm P (eqGuard o t x y (.int k m) (.int l n)) := by
  unfold eqGuard
  split <;> exact calm_pure _
theorem calm_binI (bo : BinOp) (t : TypeId) (k l : IntKind) (m n : Int) : Calm P (binOp bo t (.int k m) (.int l n)) := by
  have h0 : Calm P (if k ≠ l then stuck "BinOp: operands of different kinds" else
    match bo with
    | .add | .sub | .mul => Op.intArith bo k m n
    | .quo | .rem => Op.intDiv bo k m n
    | .and | .or | .xor | .andNot => Op.intBits bo k m n
    | _ => Op.intCmp bo m n) := by
    split
    · exact (dies_stuck _).calm
    · split <;> first | exact calm_intArith _ _ _ _ | exact calm_intDiv _ _ _ _ | exact calm_intBits _ _ _ _ | exact calm_intCmp _ _ _
  cases bo <;> first | exact h0 | (unfold binOp; exact calm_shift _ _ _ _ _)
theorem run_conv_int {s d : TypeId} (hs : intT P s = true) (hd : intT P d = true) (k : IntKind) (m : Int) : ∃ k', ∀ w, (convert s d (.int k m)).run P w = .ok (.int k' (k'.wrap m)) w := by
  unfold intT at hs hd
  split at hs
  · rename_i ks es
    split at hd
    · rename_i kd ed
      refine ⟨kd, fun w => ?_⟩
      unfold convert
      simp only [Sem.run_bind, run_underlying es, run_underlying ed, Result.andThen_ok, Conv.intToInt, Sem.run_pure]
    · cases hd
  · cases hs
theorem str_index {t : TypeId} (ht : strT P t = true) (x i : Value) {w w' : World} {v : Value} (h : (Instr.index t x i).run P w = .ok v w') : isI v = true := by
  unfold strT at ht
  split at ht
  · rename_i et
    unfold Instr.index at h
    obtain ⟨y, w1, h1, h2⟩ := ok_bind h
    obtain ⟨u, w2, h3, h4⟩ := ok_bind h2
    rw [run_underlying et] at h3
    injection h3 with h5 h6
    subst h5
    cases x with
    | string s =>
      simp only at h4
      split at h4
      · simp only [Sem.run_pure, Result.ok.injEq] at h4
        obtain ⟨rfl, _⟩ := h4; rfl
      · exact absurd h4 (dies_boundsPanic _ _ _ _ _ _ _)
    | _ => exact absurd h4 (dies_stuck _ _ _ _)
  · cases ht
theorem pureEx_int {n : Nat} {is : List Nat} {a : Act} (h : KnowsI n is a) (o : Oper) (ho : intOp P is o.op = true) : PureEx P (execOp a.eval o) := by
  obtain ⟨dst, op, type, pos, after, guard⟩ := o
  cases op <;> simp only [intOp] at ho <;> try (cases ho; done)
  case convert src dst x =>
    simp only [Bool.and_eq_true] at ho
    obtain ⟨k, m, hx⟩ := h.op ho.2
    obtain ⟨k', hr⟩ := run_conv_int (P := P) ho.1.1 ho.1.2 k m
    refine pureEx_of (s := convert src dst (a.eval x)) ?_
    rw [hx]
    intro w w' v hv
    rw [hr] at hv
    injection hv with h1 h2
    subst h1
    subst h2
    exact ⟨rfl, fun u => hr u⟩
  rename_i bo t x y yt
  simp only [Bool.and_eq_true] at ho
  obtain ⟨k, m, hx⟩ := h.op ho.1
  obtain ⟨l, n', hy⟩ := h.op ho.2
  refine pureEx_of (s := do eqGuard bo t x y (a.eval x) (a.eval y); binOp bo t (a.eval x) (a.eval y)) ?_
  rw [hx, hy]
  exact calm_bind (calm_eqGuardI _ _ _ _ _ _ _ _) fun _ => calm_binI _ _ _ _ _ _
/-- what an operation gives -/
def GivesI (P : Program) (s : Sem Value) : Prop := ∀ w w' v, s.run P w = .ok v w' → isI v = true
theorem givesI_pure (k : IntKind) (z : Int) : GivesI P (pure (.int k z)) := fun w w' v h => by
  simp only [Sem.run_pure, Result.ok.injEq] at h; obtain ⟨rfl, _⟩ := h; rfl
theorem givesI_dies {s : Sem Value} (h : Dies P s) : GivesI P s := fun w w' v hv => absurd hv (h _ _ _)
theorem givesI_bin (bo : BinOp) (hbo : (match bo with | .add | .sub | .mul | .quo | .rem | .and | .or | .xor | .andNot | .shl | .shr => true | _ => false) = true) (t : TypeId) (k l : IntKind) (m n : Int) : GivesI P (binOp bo t (.int k m) (.int l n)) := by
  have hS : GivesI P (Op.shift bo k m l n) := by
    unfold Op.shift
    split
    · exact givesI_dies (dies_runtimePanic _)
    · dsimp only
      split <;> first | exact givesI_pure _ _ | exact givesI_dies (dies_stuck _)
  have h0 : (match bo with | .add | .sub | .mul | .quo | .rem | .and | .or | .xor | .andNot => true | _ => false) = true → GivesI P (if k ≠ l then stuck "BinOp: operands of different kinds" else
    match bo with
    | .add | .sub | .mul => Op.intArith bo k m n
    | .quo | .rem => Op.intDiv bo k m n
    | .and | .or | .xor | .andNot => Op.intBits bo k m n
    | _ => Op.intCmp bo m n) := by
    intro hb
    split
    · exact givesI_dies (dies_stuck _)
    · cases bo <;> first
        | (cases hb; done)
        | exact givesI_pure _ _
        | (simp only [Op.intDiv]; split <;> first | exact givesI_dies (dies_runtimePanic _) | exact givesI_pure _ _)
  cases bo <;> first | (cases hbo; done) | exact h0 rfl | (unfold binOp; exact hS)
theorem givesI_spec {n : Nat} {is : List Nat} {a : Act} (h : KnowsI n is a) (o : Oper) (ho : givesI P is o.op = true) {w w' : World} {v : Value} (hr : (execOp a.eval o).run P w = .ok (.value v) w') : isI v = true := by
  obtain ⟨dst, op, type, pos, after, guard⟩ := o
  have key : ∀ {s : Sem Value}, GivesI P s → (do pure (Next.value (← s)) : Sem Next).run P w = .ok (.value v) w' → isI v = true := by
    intro s hs hr
    obtain ⟨y, w1, h1, h2⟩ := ok_bind hr
    simp only [Sem.run_pure, Result.ok.injEq, Next.value.injEq] at h2
    obtain ⟨rfl, rfl⟩ := h2
    exact hs _ _ _ h1
  cases op <;> simp only [givesI] at ho <;> try (cases ho; done)
  case move x =>
    obtain ⟨k, z, hx⟩ := h.op ho
    exact key (s := pure (a.eval x)) (by rw [hx]; exact givesI_pure _ _) hr
  case assign x =>
    obtain ⟨k, z, hx⟩ := h.op ho
    exact key (s := pure (a.eval x)) (by rw [hx]; exact givesI_pure _ _) hr
  case convert src dst x =>
    simp only [Bool.and_eq_true] at ho
    obtain ⟨k, m, hx⟩ := h.op ho.2
    obtain ⟨k', hr'⟩ := run_conv_int (P := P) ho.1.1 ho.1.2 k m
    refine key (s := convert src dst (a.eval x)) ?_ hr
    rw [hx]
    intro w w' v hv
    rw [hr'] at hv
    injection hv with h1 h2
    subst h1; rfl
  case index t x i =>
    exact key (s := Instr.index t (a.eval x) (a.eval i)) (fun w w' v hv => str_index ho _ _ hv) hr
  case binOp bo t x y yt =>
    simp only [Bool.and_eq_true] at ho
    obtain ⟨k, m, hx⟩ := h.op ho.1.1
    obtain ⟨l, n', hy⟩ := h.op ho.1.2
    refine key (s := do eqGuard bo t x y (a.eval x) (a.eval y); binOp bo t (a.eval x) (a.eval y)) ?_ hr
    rw [hx, hy]
    intro w w' v hv
    obtain ⟨y, w1, h1, h2⟩ := ok_bind hv
    exact givesI_bin bo ho.2 _ _ _ _ _ _ _ _ h2
theorem KnowsI.put {n : Nat} {is : List Nat} {a : Act} (h : KnowsI n is a) (o : Oper) (v : Value) (hv : o.guard.isNone = true → givesI P is o.op = true → isI v = true) : KnowsI n (nextI P n is o) (a.put o.dst v) := by
  unfold nextI
  cases hd : o.dst with
  | none => exact h
  | some d =>
    refine ⟨by simpa [Act.put] using h.1, fun s hs => ?_⟩
    dsimp only at hs
    have hne : s ≠ d → (a.put (some d) v).eval (.tmp s) = a.eval (.tmp s) := fun hsd => by
      simp only [Act.eval, Act.put]; exact getD_put_ne _ _ _ _ _ (Ne.symm hsd)
    split at hs
    · rename_i hc
      simp only [Bool.and_eq_true, decide_eq_true_eq] at hc
      by_cases hsd : s = d
      · subst hsd
        have : (a.put (some s) v).eval (.tmp s) = v := by
          have := h.1
          have hlt : s < a.tmps.size := Nat.lt_of_lt_of_le hc.1.2 h.1
          simp [Act.eval, Act.put, hlt]
        rw [this]; exact hv hc.1.1 hc.2
      · rw [hne hsd]; exact h.2 s (by simpa [hsd] using hs)
    · simp only [List.mem_filter, bne_iff_ne] at hs
      rw [hne hs.2]; exact h.2 s hs.1
theorem KnowsI.of_tmps {n : Nat} {is : List Nat} {a b : Act} (h : KnowsI n is a) (e : b.tmps = a.tmps) : KnowsI n is b :=
  ⟨by rw [e]; exact h.1, fun s hs => by have := h.2 s hs; simp only [Act.eval, e] at this ⊢; exact this⟩
def leftI (is : List Nat) (o : Oper) : List Nat := match o.dst with
  | none => is
  | some d => is.filter (· != d)

/-! ### the Bool -/
def pureI (P : Program) (is : List Nat) (op : Op) : Bool := pureOp P op || intOp P is op
def besideF (P : Program) (ops : Array Oper) (marks : List Nat) (is : List Nat) (oi oj : Oper) (j : Nat) : Bool :=
  oi.apart ops oj && (pureI P is oi.op || pureOp P oj.op || (readOp P oi.op && (meekOp P oj.op || marks.contains j)))
def waitsForC (md : Region.Mode) (ops : Array Oper) (c : List (Nat × Nat)) (i : Nat) : List Bool :=
  ops.toList.foldl (fun acc o => acc ++ [held c i acc.length || o.after.toList.any fun e => Region.binds md e && (e.on == i || acc.getD e.on false)]) []
def waitsOkC (md : Region.Mode) (ops : Array Oper) (c : List (Nat × Nat)) (i : Nat) (d : List Bool) : Bool :=
  (List.range ops.size).all fun j => !d.getD j false || held c i j || match ops[j]? with
    | some o => o.after.toList.any fun e => Region.binds md e && (e.on == i || d.getD e.on false)
    | none => true
theorem waitsOkC_spec {c : List (Nat × Nat)} {i : Nat} {d : List Bool} (h : waitsOkC md ops c i d = true) : WaitsC md ops c i (fun j => d.getD j false) := fun j oj hoj hd => by
  simp only [waitsOkC, List.all_eq_true, List.mem_range] at h
  have h1 := h j (Array.getElem?_eq_some_iff.1 hoj).1
  simp only [hd, hoj, Bool.not_true, Bool.false_or, List.any_eq_true, Bool.and_eq_true, Bool.or_eq_true, beq_iff_eq] at h1
  rcases h1 with h1 | ⟨e, he, hb, hor⟩
  · exact .inr h1
  · exact .inl ⟨e, by simpa using he, hb, hor⟩
def freeF (P : Program) (md : Region.Mode) (ops : Array Oper) (c : List (Nat × Nat)) (marks is : List Nat) (listed : Array Bool) (k : Nat) (ok : Oper) : Bool :=
  let d := waitsForC md ops c k
  waitsOkC md ops c k d && (d.length == ops.size) && (List.range ops.size).all (fun j => !d.getD j false || !listed.getD j false) &&
  (List.range ops.size).all fun j => listed.getD j true || j == k || d.getD j false || held c k j || match ops[j]? with
    | some oj => besideF P ops marks is ok oj j
    | none => true
def serialF (P : Program) (md : Region.Mode) (ops : Array Oper) (c : List (Nat × Nat)) (n : Nat) (marks : List Nat) : List Nat → List Nat → Array Bool → Bool
  | [], _, listed => (Region.ready md ops listed).isEmpty
  | k :: ord, is, listed => match ops[k]? with
    | none => false
    | some o => (Region.ready md ops listed).contains k && mayC c listed k && freeF P md ops c marks is listed k o && serialF P md ops c n marks ord (if pureI P is o.op then nextI P n is o else leftI is o) (listed.setIfInBounds k true)
def wpOrd (P : Program) (ops : Array Oper) (Q : Exit → Act → World → Prop) (F : Nat → Bool) : List Nat → Act → World → Prop
  | [], a, w => Q .normal a w
  | k :: ord, a, w => wpOp P ops Q k (fun a' w' => Keep F k w w' ∧ wpOrd P ops Q F ord a' w') a w
theorem leftI_put {n : Nat} {is : List Nat} {a : Act} (h : KnowsI n is a) (o : Oper) (v : Value) : KnowsI n (leftI is o) (a.put o.dst v) := by
  unfold leftI
  cases hd : o.dst with
  | none => exact h
  | some d =>
    refine ⟨by simpa [Act.put] using h.1, fun s hs => ?_⟩
    simp only [List.mem_filter, bne_iff_ne] at hs
    have : (a.put (some d) v).eval (.tmp s) = a.eval (.tmp s) := by
      simp only [Act.eval, Act.put]; exact getD_put_ne _ _ _ _ _ (Ne.symm hs.2)
    rw [this]; exact h.2 s hs.1
theorem serialF_lex (hb : NoBad Q) (hs : Region.noSelect ops = true) (n : Nat) (marks : List Nat) : ∀ (ord is : List Nat) (listed : Array Bool) (a : Act) (w : World), KnowsI n is a →
    serialF P md ops cc n marks ord is listed = true → wpOrd P ops Q (fun i => marks.contains i) ord a w → wpAnyF P md ops Q (fun i => marks.contains i) cc ord.length listed a w
  | [], _, _, _, _, _, hB, h => ⟨by simpa [serialF] using hB, by simpa [wpOrd] using h⟩
  | k :: ord, is, listed, a, w, hI, hB, h => by
    cases h0 : ops[k]? with
    | none => simp only [serialF, h0] at hB; cases hB
    | some o =>
    simp only [serialF, h0, Bool.and_eq_true] at hB
    obtain ⟨⟨⟨hr, hmi⟩, hf⟩, hB'⟩ := hB
    have hready : k ∈ Region.ready md ops listed := by simpa using hr
    simp only [freeF, Bool.and_eq_true, List.all_eq_true, List.mem_range, beq_iff_eq] at hf
    obtain ⟨⟨⟨hw1, hlen⟩, hw2⟩, hw3⟩ := hf
    have hd := waitsOkC_spec hw1
    have hinv : ∀ j, (fun j => (waitsForC md ops cc k).getD j false) j = true → listed.getD j false = false := fun j hj => by
      rcases Nat.lt_or_ge j ops.size with h' | h'
      · have := hw2 j h'
        simp only [hj, Bool.not_true, Bool.false_or] at this
        simpa using this
      · have hj' : (waitsForC md ops cc k).getD j false = true := hj
        rw [List.getD, List.getElem?_eq_none (by omega)] at hj'
        cases hj'
    have hfree : ∀ j, listed.getD j true = false → j ≠ k → (fun j => (waitsForC md ops cc k).getD j false) j = false → held cc k j = false → ∀ oj, ops[j]? = some oj → besideF P ops marks is o oj j = true := fun j hj hjk hdj hh oj hoj => by
      have h1 := hw3 j (Array.getElem?_eq_some_iff.1 hoj).1
      have hdj' : (waitsForC md ops cc k).getD j false = false := hdj
      simp only [hoj, hj, hdj', hh, Bool.or_false, Bool.false_or, Bool.or_eq_true, beq_iff_eq] at h1
      exact h1.resolve_left hjk
    have h' : wpOp P ops Q k (fun a' w' => Keep (fun i => marks.contains i) k w w' ∧ wpOrd P ops Q (fun i => marks.contains i) ord a' w') a w := h
    simp only [besideF, Bool.and_eq_true, Bool.or_eq_true] at hfree
    by_cases hp : pureI P is o.op = true
    · rw [if_pos hp] at hB'
      have hpe : PureEx P (execOp a.eval o) := by
        simp only [pureI, Bool.or_eq_true] at hp
        rcases hp with hp | hp
        · exact pureEx_op _ _ hp
        · exact pureEx_int hI o hp
      obtain ⟨v, hy, hK⟩ := wpOp_pure hb h0 hpe h'
      refine wpAnyF_rd hb (C := fun _ => True) (fun _ _ _ _ => trivial) h0 (Region.noSelect_spec hs) hd _ _ _ _ hinv
        (fun j hj hjk hdj hh oj hoj => ⟨(hfree j hj hjk hdj hh oj hoj).1, .inl (.inl fun _ => trivial)⟩) hready hmi trivial hy
        (serialF_lex hb hs n marks ord _ _ _ _ (hI.put o v fun hg hgi => ?_) hB' hK.2)
      rcases hy with ⟨_, hv⟩ | ⟨hw, rfl⟩
      · exact givesI_spec hI o hgi (hv w trivial)
      · exfalso
        unfold Region.wanted at hw
        cases hgd : o.guard with
        | none => rw [hgd] at hw; cases hw
        | some g => rw [hgd] at hg; cases hg
    · rw [if_neg hp] at hB'
      have h2 := wpOp_tmps hb h0 h'
      have H : wpOp P ops Q k (fun a' w' => Keep (fun i => marks.contains i) k w w' ∧ wpAnyF P md ops Q (fun i => marks.contains i) cc ord.length (listed.setIfInBounds k true) a' w') a w :=
        wpOp_mono (fun a' w' hk => ⟨hk.1.1, by
          obtain ⟨v, hv⟩ := hk.2
          exact serialF_lex hb hs n marks ord _ _ a' w' ((leftI_put hI o v).of_tmps hv) hB' hk.1.2⟩) h2
      have hpo : pureOp P o.op ≠ true := fun hc => hp (by simp [pureI, hc])
      by_cases hrd : readOp P o.op = true
      · obtain ⟨v, hy, hK⟩ := wpOp_rd hb h0 (rdEx_op _ _ hrd) H
        exact wpAnyF_rd hb (C := Ext w) (fun _ _ h k => h.trans k) h0 (Region.noSelect_spec hs) hd _ _ _ _ hinv
          (fun j hj hjk hdj hh oj hoj => ⟨(hfree j hj hjk hdj hh oj hoj).1, by
            rcases (hfree j hj hjk hdj hh oj hoj).2 with (h1 | h1) | h1
            · exact absurd h1 hp
            · exact .inl (.inr fun ρ => (pureEx_op _ _ h1).rd.meek)
            · rcases h1.2 with h1 | h1
              · exact .inl (.inr fun ρ => meekEx_op _ _ h1)
              · exact .inr h1⟩) hready hmi (Ext.refl _) hy hK.2
      · exact wpAnyF_eff hb h0 (Region.noSelect_spec hs) hd _ _ _ _ hinv
          (fun j hj hjk hdj hh oj hoj => ⟨(hfree j hj hjk hdj hh oj hoj).1, fun ρ => by
            rcases (hfree j hj hjk hdj hh oj hoj).2 with (h1 | h1) | h1
            · exact absurd h1 hp
            · exact pureEx_op _ _ h1
            · exact absurd h1.1 hrd⟩) hready hmi H

/-! ### how it is walked -/
theorem wp_swapQ (hb : NoBad Q) {K K2 : Act → World → Prop} {o : Oper} {a : Act} {w : World} (h : o.wp P a w K (Exit.then K2 Q)) : o.wp P a w K Q := by
  unfold Oper.wp at *
  generalize (execOp a.eval o).run P w = r at *
  cases r with
  | ok n w' =>
    cases n <;> simp only [Oper.upon] at h ⊢
    case value u => exact h
    case skip => exact h
    case defer d => exact h
    case enter f args =>
      refine Calls.mono h fun e w'' he => ?_
      cases e with
      | returned u => exact he
      | panicked c => exact absurd he (hb.pan _ _ _)
      | outgrown => exact absurd he (NoBad.then hb).lets
    case row row args => exact h
  | halt x w' =>
    cases x <;> simp only [Oper.upon] at h ⊢
    exact absurd h (hb.pan _ _ _)
theorem wpOrd_list (hb : NoBad Q) {K : Act → World → Prop} (rest : List Nat) (hK : ∀ a w, K a w → wpOrd P ops Q F rest a w) : ∀ (ord : List Nat) (l : List Oper) (a : Act) (w : World), (∀ i ∈ ord, F i = false) → ord.map (ops[·]?) = l.map some →
    wpList P ops (Exit.then K Q) l a w → wpOrd P ops Q F (ord ++ rest) a w
  | [], l, a, w, _, hl, h => by
    obtain rfl : l = [] := by simpa using hl.symm
    exact hK _ _ h
  | k :: ord, l, a, w, hF, hl, h => by
    match l, hl with
    | o :: l, hl =>
      simp only [List.map_cons, List.cons.injEq] at hl
      show wpOp P ops Q k _ a w
      have hih : ∀ a' w', wpList P ops (Exit.then K Q) l a' w' → Keep F k w w' ∧ wpOrd P ops Q F (ord ++ rest) a' w' := fun a' w' h =>
        ⟨fun hc => (by rw [hF k (by simp)] at hc; cases hc), wpOrd_list hb rest hK ord l a' w' (fun i hi => hF i (by simp [hi])) hl.2 h⟩
      have hih0 : ∀ a' w', wpList P ops (Exit.then K Q) l a' w' → (fun a' w' => Keep F k w w' ∧ wpOrd P ops Q F (ord ++ rest) a' w') a' w' := hih
      unfold Go.wpOp
      simp only [hl.1]
      simp only [wpList] at h
      split
      · rename_i hw
        rw [if_pos hw] at h
        rcases h with h | h
        · exact .inl (Oper.wp_mono hih0 (wp_swapQ hb h))
        · exact absurd h.2 (NoBad.then hb).lets
      · rename_i hw
        rw [if_neg hw] at h
        exact hih _ _ h
theorem wpOrd_mark (hb : NoBad Q) (k : Nat) (c : Oper) (rest : List Nat) (hc : ops[k]? = some c) {K : World → Act → World → Prop} (hK : ∀ w a' w', K w a' w' → Ext w w' ∧ wpOrd P ops Q F rest a' w') {a : Act} {w : World}
    (h : wpList P ops (Exit.then (K w) Q) [c] a w) : wpOrd P ops Q F (k :: rest) a w := by
  show wpOp P ops Q k _ a w
  have hih : ∀ a' w', wpList P ops (Exit.then (K w) Q) [] a' w' → (fun a' w' => Keep F k w w' ∧ wpOrd P ops Q F rest a' w') a' w' := fun a' w' h => by
    have h1 : K w a' w' := h
    exact ⟨fun _ => (hK _ _ _ h1).1, (hK _ _ _ h1).2⟩
  unfold Go.wpOp
  simp only [hc]
  simp only [wpList] at h
  split
  · rename_i hw
    rw [if_pos hw] at h
    rcases h with h | h
    · exact .inl (Oper.wp_mono (fun a' w' k => hih a' w' (by simpa only [wpList] using k)) (wp_swapQ hb h))
    · exact absurd h.2 (NoBad.then hb).lets
  · rename_i hw
    rw [if_neg hw] at h
    exact hih _ _ (by simpa only [wpList] using h)
theorem wpOrd_last (hb : NoBad Q) : ∀ (ord : List Nat) (l : List Oper) (a : Act) (w : World), (∀ i ∈ ord, F i = false) → ord.map (ops[·]?) = l.map some → wpList P ops Q l a w → wpOrd P ops Q F ord a w
  | [], l, a, w, _, hl, h => by
    obtain rfl : l = [] := by simpa using hl.symm
    exact h
  | k :: ord, l, a, w, hF, hl, h => by
    match l, hl with
    | o :: l, hl =>
      simp only [List.map_cons, List.cons.injEq] at hl
      show wpOp P ops Q k _ a w
      have hih : ∀ a' w', wpList P ops Q l a' w' → (fun a' w' => Keep F k w w' ∧ wpOrd P ops Q F ord a' w') a' w' := fun a' w' h =>
        ⟨fun hc => (by rw [hF k (by simp)] at hc; cases hc), wpOrd_last hb ord l a' w' (fun i hi => hF i (by simp [hi])) hl.2 h⟩
      unfold Go.wpOp
      simp only [hl.1]
      simp only [wpList] at h
      split
      · rename_i hw
        rw [if_pos hw] at h
        exact orMap h (Oper.wp_mono hih) id
      · rename_i hw
        rw [if_neg hw] at h
        exact hih _ _ h
/-- the walk: up to each marked operation, it, and on -/
def wpSegs (P : Program) (ops : Array Oper) (Q : Exit → Act → World → Prop) : List (List Oper × Oper) → List Oper → Act → World → Prop
  | [], l => wpList P ops Q l
  | (l1, c) :: r, l => wpList P ops (Exit.then (fun a1 w1 => wpList P ops (Exit.then (fun a2 w2 => Ext w1 w2 ∧ wpSegs P ops Q r l a2 w2) Q) [c] a1 w1) Q) l1
def segOrd (segs : List (List Nat × Nat)) (last : List Nat) : List Nat := segs.foldr (fun s acc => s.1 ++ (s.2 :: acc)) last
def serial3 (P : Program) (ops : Array Oper) (c : List (Nat × Nat)) (n : Nat) (is : List Nat) (segs : List (List Nat × Nat)) (last : List Nat) : Bool :=
  Region.noSelect ops && serialF P .any ops c n (segs.map (·.2)) (segOrd segs last) is (Array.replicate ops.size false) && (segOrd segs last).length == ops.size
  && segs.all (fun s => s.1.all fun i => !(segs.map (·.2)).contains i) && last.all fun i => !(segs.map (·.2)).contains i
theorem wpSegs_ord (hb : NoBad Q) (last : List Nat) (lL : List Oper) (hL : last.map (ops[·]?) = lL.map some) (hFL : ∀ i ∈ last, F i = false) : ∀ (segs : List (List Nat × Nat)) (lS : List (List Oper × Oper)) (a : Act) (w : World),
    (∀ s ∈ segs, ∀ i ∈ s.1, F i = false) → segs.map (fun s => (s.1.map (ops[·]?), ops[s.2]?)) = lS.map (fun s => (s.1.map some, some s.2)) → wpSegs P ops Q lS lL a w → wpOrd P ops Q F (segOrd segs last) a w
  | [], lS, a, w, _, hS, h => by
    obtain rfl : lS = [] := by simpa using hS.symm
    exact wpOrd_last hb last lL a w hFL hL h
  | s :: segs, lS, a, w, hF, hS, h => by
    match lS, hS with
    | (l1, c) :: lS, hS =>
      simp only [List.map_cons, List.cons.injEq, Prod.mk.injEq] at hS
      refine wpOrd_list hb (s.2 :: segOrd segs last) (fun a1 w1 h1 => ?_) s.1 l1 a w (hF s (by simp)) hS.1.1 h
      exact wpOrd_mark hb s.2 c (segOrd segs last) hS.1.2 (K := fun w1 a2 w2 => Ext w1 w2 ∧ wpSegs P ops Q lS lL a2 w2) (fun w a' w' hk => ⟨hk.1, wpSegs_ord hb last lL hL hFL segs lS a' w' (fun s hs => hF s (by simp [hs])) hS.2 hk.2⟩) h1
theorem serial3_any (n : Nat) (is : List Nat) (segs : List (List Nat × Nat)) (last : List Nat) {a : Act} {w : World} (lS : List (List Oper × Oper)) (lL : List Oper)
    (hB : serial3 P ops cc n is segs last = true) (hS : segs.map (fun s => (s.1.map (ops[·]?), ops[s.2]?)) = lS.map (fun s => (s.1.map some, some s.2))) (hL : last.map (ops[·]?) = lL.map some)
    (hI : KnowsI n is a) (hb : NoBad Q) (h : wpSegs P ops Q lS lL a w) : wpAnyC P .any ops Q cc ops.size (Array.replicate ops.size false) a w := by
  simp only [serial3, Bool.and_eq_true, beq_iff_eq, List.all_eq_true, Bool.not_eq_true'] at hB
  obtain ⟨⟨⟨⟨hs, hF⟩, hlen⟩, h1⟩, h2⟩ := hB
  have := serialF_lex (md := .any) hb hs n (segs.map (·.2)) (segOrd segs last) is _ a w hI hF (wpSegs_ord hb last lL hL h2 segs lS a w h1 hS h)
  rw [hlen] at this
  exact this.any
theorem obeys_nil : ∀ (l : List Nat) (L : Array Bool), obeys [] L l = true
  | [], _ => rfl
  | i :: l, L => by simp only [obeys, mayC, List.all_nil, Bool.true_and]; exact obeys_nil l _
theorem obeys_app (c d : List (Nat × Nat)) : ∀ (l : List Nat) (L : Array Bool), obeys c L l = true → obeys d L l = true → obeys (c ++ d) L l = true
  | [], _, _, _ => rfl
  | i :: l, L, h, k => by
    simp only [obeys, mayC, List.all_append, Bool.and_eq_true] at *
    exact ⟨⟨h.1, k.1⟩, obeys_app c d l _ h.2 k.2⟩
/-- where x may stand among cs -/
def places (x : Nat) : List Nat → List (Nat × Nat) → List (List (Nat × Nat))
  | [], c => [c]
  | k :: cs, c => (c ++ [(k, x)]) :: places x cs (c ++ [(x, k)])
theorem places_all (x : Nat) : ∀ (cs : List Nat) (c : List (Nat × Nat)) (l : List Nat) (L : Array Bool), (∀ k ∈ cs, x ≠ k) → (∀ i ∈ l, i < L.size) → obeys c L l = true → ∃ d ∈ places x cs c, obeys d L l = true
  | [], c, l, L, _, _, h => ⟨c, by simp [places], h⟩
  | k :: cs, c, l, L, hx, hL, h => by
    rcases obeys_or (hx k (by simp)) l L hL with h1 | h1
    · obtain ⟨d, hd, h2⟩ := places_all x cs (c ++ [(x, k)]) l L (fun i hi => hx i (by simp [hi])) hL (obeys_app _ _ _ _ h h1)
      exact ⟨d, by simp [places, hd], h2⟩
    · exact ⟨c ++ [(k, x)], by simp [places], obeys_app _ _ _ _ h h1⟩
theorem wp_places (x : Nat) (cs : List Nat) {id : Nat} {a : Act} {w : World} {l : List Oper} (hm : P.follows .mixedOrders = true) (hx : cs.all (· != x) = true)
    (h : ∀ d ∈ places x cs [], wpAnyC P .any l.toArray Q d l.toArray.size (Array.replicate l.toArray.size false) a w.drew) : (Code.region id l.toArray true).wp P Q a w := by
  refine wp_region_draw fun t => ?_
  simp only [Region.schedule, hm, Bool.true_or, if_true]
  change wpOps P l.toArray Q (Region.linearise.go .any l.toArray l.toArray.size t (Array.replicate l.toArray.size false) []) a w.drew
  have hlt := lin_lt (md := .any) (ops := l.toArray) l.toArray.size t (Array.replicate l.toArray.size false) (by simp)
  obtain ⟨d, hd, h2⟩ := places_all x cs [] _ (Array.replicate l.toArray.size false) (fun k hk => by have := List.all_eq_true.1 hx k hk; simp at this; exact Ne.symm this) (fun i hi => by simpa using hlt i hi) (obeys_nil (Region.linearise.go .any l.toArray l.toArray.size t (Array.replicate l.toArray.size false) []) _)
  exact wpAnyC_sound _ t _ _ _ h2 (h d hd)
/-- **one order for all** -/
theorem wp_serial3 (n : Nat) (is : List Nat) (segs : List (List Nat × Nat)) (last : List Nat) {id : Nat} {a : Act} {w : World} {l : List Oper} (lS : List (List Oper × Oper)) (lL : List Oper) (hm : P.follows .mixedOrders = true)
    (hB : serial3 P l.toArray [] n is segs last = true) (hS : segs.map (fun s => (s.1.map (l.toArray[·]?), l.toArray[s.2]?)) = lS.map (fun s => (s.1.map some, some s.2))) (hL : last.map (l.toArray[·]?) = lL.map some)
    (hI : KnowsI n is a) (hb : NoBad Q) (h : wpSegs P l.toArray Q lS lL a w.drew) : (Code.region id l.toArray true).wp P Q a w :=
  wp_places 0 [] hm rfl fun d hd => by
    obtain rfl : d = [] := by simpa [places] using hd
    exact serial3_any n is segs last lS lL hB hS hL (hI.of_tmps rfl) hb h
/-- **one operation x that may stand anywhere among the chain cs: a walk for each place** -/
def wpAll (P : Program) (ops : Array Oper) (Q : Exit → Act → World → Prop) (a : Act) (w : World) : List (List Oper) → Prop
  | [] => True
  | l :: r => wpList P ops Q l a w ∧ wpAll P ops Q a w r
theorem wp_serial4 (n : Nat) (is : List Nat) (x : Nat) (cs : List Nat) (ords : List (List Nat)) {id : Nat} {a : Act} {w : World} {l : List Oper} (lS : List (List Oper)) (hm : P.follows .mixedOrders = true)
    (hB : (cs.all (· != x) && (ords.length == (places x cs []).length) && ((places x cs []).zip ords).all fun p => serial3 P l.toArray p.1 n is [] p.2) = true) (hS : ords.map (fun o => o.map (l.toArray[·]?)) = lS.map (fun s => s.map some))
    (hI : KnowsI n is a) (hb : NoBad Q) (h : wpAll P l.toArray Q a w.drew lS) : (Code.region id l.toArray true).wp P Q a w := by
  simp only [Bool.and_eq_true, beq_iff_eq] at hB
  obtain ⟨⟨h1, h2⟩, h3⟩ := hB
  refine wp_places x cs hm h1 ?_
  generalize places x cs [] = ds at h2 h3 ⊢
  induction ds generalizing ords lS with
  | nil => intro d hd; cases hd
  | cons d ds ih =>
    match ords, h2 with
    | o :: ords, h2 =>
      match lS, hS with
      | l1 :: lS, hS =>
        simp only [List.map_cons, List.cons.injEq] at hS
        simp only [List.zip_cons_cons, List.all_cons, Bool.and_eq_true] at h3
        intro d' hd'
        rcases List.mem_cons.1 hd' with rfl | hd'
        · exact serial3_any n is [] o [] l1 h3.1 rfl hS.1 (hI.of_tmps rfl) hb h.1
        · exact ih ords lS hS.2 h.2 (by simpa using h2) h3.2 d' hd'
theorem wp_serial3_0 (n : Nat) (is last : List Nat) {id : Nat} {a : Act} {w : World} {l : List Oper} (lL : List Oper) (hm : P.follows .mixedOrders = true)
    (hB : serial3 P l.toArray [] n is [] last = true) (hL : last.map (l.toArray[·]?) = lL.map some)
    (hI : KnowsI n is a) (hb : NoBad Q) (h : wpList P l.toArray Q lL a w.drew) : (Code.region id l.toArray true).wp P Q a w :=
  wp_serial3 n is [] last [] lL hm hB rfl hL hI hb h
theorem wp_serial3_1 (n : Nat) (is : List Nat) (s1 : List Nat) (k1 : Nat) (last : List Nat) {id : Nat} {a : Act} {w : World} {l : List Oper} (l1 : List Oper) (c1 : Oper) (lL : List Oper) (hm : P.follows .mixedOrders = true)
    (hB : serial3 P l.toArray [] n is [(s1, k1)] last = true) (h1 : s1.map (l.toArray[·]?) = l1.map some) (hc1 : l.toArray[k1]? = some c1) (hL : last.map (l.toArray[·]?) = lL.map some)
    (hI : KnowsI n is a) (hb : NoBad Q) (h : wpList P l.toArray (Exit.then (fun a1 w1 => wpList P l.toArray (Exit.then (fun a2 w2 => Ext w1 w2 ∧ wpList P l.toArray Q lL a2 w2) Q) [c1] a1 w1) Q) l1 a w.drew) : (Code.region id l.toArray true).wp P Q a w :=
  wp_serial3 n is [(s1, k1)] last [(l1, c1)] lL hm hB (by simp only [List.map_cons, List.map_nil, h1, hc1]) hL hI hb h
theorem wp_serial3_2 (n : Nat) (is : List Nat) (s1 : List Nat) (k1 : Nat) (s2 : List Nat) (k2 : Nat) (last : List Nat) {id : Nat} {a : Act} {w : World} {l : List Oper} (l1 : List Oper) (c1 : Oper) (l2 : List Oper) (c2 : Oper) (lL : List Oper) (hm : P.follows .mixedOrders = true)
    (hB : serial3 P l.toArray [] n is [(s1, k1), (s2, k2)] last = true) (h1 : s1.map (l.toArray[·]?) = l1.map some) (hc1 : l.toArray[k1]? = some c1) (h2 : s2.map (l.toArray[·]?) = l2.map some) (hc2 : l.toArray[k2]? = some c2) (hL : last.map (l.toArray[·]?) = lL.map some)
    (hI : KnowsI n is a) (hb : NoBad Q) (h : wpList P l.toArray (Exit.then (fun a1 w1 => wpList P l.toArray (Exit.then (fun a2 w2 => Ext w1 w2 ∧ wpList P l.toArray (Exit.then (fun a1 w1 => wpList P l.toArray (Exit.then (fun a2 w2 => Ext w1 w2 ∧ wpList P l.toArray Q lL a2 w2) Q) [c2] a1 w1) Q) l2 a2 w2) Q) [c1] a1 w1) Q) l1 a w.drew) : (Code.region id l.toArray true).wp P Q a w :=
  wp_serial3 n is [(s1, k1), (s2, k2)] last [(l1, c1), (l2, c2)] lL hm hB (by simp only [List.map_cons, List.map_nil, h1, hc1, h2, hc2]) hL hI hb h
end
end Go.Proofs.Ytijmbpokglohbaa.S5

namespace Go.Proofs.Ytijmbpokglohbaa.SL
set_option linter.unusedSimpArgs false
set_option linter.unusedVariables false

section
variable {P : Program} {md : Region.Mode} {ops : Array Oper} {Q : Exit → Act → World → Prop}
def Keep (F : Nat → Bool) (i : Nat) (w w' : World) : Prop := F i = true → Ext w w'
theorem Keep.refl {F : Nat → Bool} {i : Nat} (w : World) : Keep F i w w := fun _ => Ext.refl w
def wpAnyF (P : Program) (md : Region.Mode) (ops : Array Oper) (Q : Exit → Act → World → Prop) (F : Nat → Bool) (cc : List (Nat × Nat)) : Nat → Array Bool → Act → World → Prop
  | 0, listed, a, w => Region.ready md ops listed = [] ∧ Q .normal a w
  | fuel + 1, listed, a, w =>
    (Region.ready md ops listed = [] → Q .normal a w) ∧
    ∀ i ∈ Region.ready md ops listed, mayC cc listed i = true → wpOp P ops Q i (fun a' w' => Keep F i w w' ∧ wpAnyF P md ops Q F cc fuel (listed.setIfInBounds i true) a' w') a w
variable {cc : List (Nat × Nat)}
theorem wpAnyF.any {F : Nat → Bool} : ∀ (fuel : Nat) (listed : Array Bool) (a : Act) (w : World), wpAnyF P md ops Q F cc fuel listed a w → wpAnyC P md ops Q cc fuel listed a w
  | 0, _, _, _, h => h
  | fuel + 1, listed, a, w, h => ⟨h.1, fun i hi hm => wpOp_mono (fun a' w' k => wpAnyF.any fuel _ a' w' k.2) (h.2 i hi hm)⟩
/-- an operation beside a reading, whose end tells that the reading still stands -/
theorem wpOp_putK (hb : NoBad Q) {C : World → Prop} {j : Nat} {oi oj : Oper} {v : Value} (hj : ops[j]? = some oj) (hap : oi.apart ops oj = true)
    (hsi : ∀ cs b, oi.op ≠ .select cs b) (hsj : ∀ cs b, oj.op ≠ .select cs b) {K : Act → World → Prop} {a : Act} {w : World} (hCw : C w)
    (hm : ∀ a' w', K a' w' → C w')
    (hy : YieldsC P ops C oi v a) (h : wpOp P ops Q j K (a.put oi.dst v) w) :
    wpOp P ops Q j (fun a' w' => C w' ∧ YieldsC P ops C oi v a' ∧ K (a'.put oi.dst v) w') a w := by
  obtain ⟨h1, h2, h3⟩ := Oper.apart_spec hap
  have keep : ∀ (a : Act), YieldsC P ops C oi v a → ∀ u, YieldsC P ops C oi v (a.put oj.dst u) := fun a hy u =>
    hy.of_same (execOp_put oi hsi a oj.dst u h3) (wanted_put oi a oj.dst u h3)
  have keepD : ∀ d, YieldsC P ops C oi v { a with defers := d :: a.defers } := fun d => hy.of_same rfl rfl
  unfold Go.wpOp at *
  simp only [hj] at *
  rw [wanted_put oj a oi.dst v h1] at h
  split at h
  · rename_i hw
    rw [if_pos hw]
    rcases h with h | ⟨_, h⟩
    case inr => exact absurd h hb.lets
    refine .inl ?_
    unfold Oper.wp at *
    rw [execOp_put oj hsj a oi.dst v h1] at h
    cases hrun : (execOp a.eval oj).run P w with
    | ok n w' =>
      rw [hrun] at h
      cases n <;> simp only [Oper.upon] at h ⊢
      case value u => exact ⟨hm _ _ h, keep a hy u, by rw [← Act.put_comm a v u h2]; exact h⟩
      case skip => exact ⟨hm _ _ h, keep a hy _, by rw [← Act.put_comm a v undef h2]; exact h⟩
      case defer d =>
        refine ⟨hm _ _ h, keep _ (keepD d) _, ?_⟩
        rw [← Act.put_comm _ v undef h2, ← Act.put_defers]
        exact h
      case enter f args =>
        refine Calls.mono h fun e w'' he => ?_
        cases e with
        | returned u => exact ⟨hm _ _ he, keep a hy u, by rw [← Act.put_comm a v u h2]; exact he⟩
        | panicked c => exact absurd he (hb.pan _ _ _)
        | outgrown => exact he
      case row row args => exact Rows.mono h fun u w'' he => ⟨hm _ _ he, keep a hy u, by rw [← Act.put_comm a v u h2]; exact he⟩
    | halt x w' =>
      rw [hrun] at h
      cases x <;> simp only [Oper.upon] at h ⊢
      exact absurd h (hb.pan _ _ _)
  · rename_i hw
    rw [if_neg hw]
    exact ⟨hCw, keep a hy _, by rw [← Act.put_comm a v undef h2]; exact h⟩
/-- what can't come as long as i has not: it waits for i, or for what does, by the region's rules or by those of cc -/
def WaitsC (md : Region.Mode) (ops : Array Oper) (c : List (Nat × Nat)) (i : Nat) (d : Nat → Bool) : Prop :=
  ∀ j oj, ops[j]? = some oj → d j = true → (∃ e ∈ oj.after, Region.binds md e = true ∧ (e.on = i ∨ d e.on = true)) ∨ held c i j = true
theorem not_waitsC {i : Nat} {d : Nat → Bool} (hd : WaitsC md ops cc i d) {listed : Array Bool} (hu : listed.getD i true = false) (hinv : ∀ j, d j = true → listed.getD j false = false) {j : Nat}
    (hj : j ∈ Region.ready md ops listed) (hm : mayC cc listed j = true) : d j = false := by
  cases hdj : d j with
  | false => rfl
  | true =>
    obtain ⟨_, oj, hoj, hall⟩ := mem_ready.1 hj
    rcases hd j oj hoj hdj with ⟨e, he, hb, h⟩ | h
    · have h1 := hall e he hb
      rcases h with h | h
      · rw [h] at h1
        rcases Nat.lt_or_ge i listed.size with h' | h'
        · simp [h'] at hu h1; rw [hu] at h1; cases h1
        · simp [Array.getElem?_eq_none h'] at h1
      · rw [hinv _ h] at h1; cases h1
    · rw [held_no hu hm] at h; cases h
variable {F : Nat → Bool}
theorem wpAnyF_rd (hb : NoBad Q) {C : World → Prop} (hC : ∀ u u', C u → Ext u u' → C u') {i : Nat} {oi : Oper} {v : Value} {d : Nat → Bool} (hi : ops[i]? = some oi)
    (hsel : ∀ (j : Nat) (o : Oper) cs b, ops[j]? = some o → o.op ≠ .select cs b) (hd : WaitsC md ops cc i d) :
    ∀ (fuel : Nat) (listed : Array Bool) (a : Act) (w : World), (∀ j, d j = true → listed.getD j false = false) → (∀ j, listed.getD j true = false → j ≠ i → d j = false → held cc i j = false → ∀ oj, ops[j]? = some oj → oi.apart ops oj = true ∧ (((∀ u, C u) ∨ ∀ ρ, MeekEx P (execOp ρ oj)) ∨ F j = true)) →
      i ∈ Region.ready md ops listed → mayC cc listed i = true → C w → YieldsC P ops C oi v a →
      wpAnyF P md ops Q F cc fuel (listed.setIfInBounds i true) (a.put oi.dst v) w → wpAnyF P md ops Q F cc (fuel + 1) listed a w := by
  intro fuel
  induction fuel with
  | zero =>
    intro listed a w _ _ hr hmi hCw hy H
    refine ⟨fun h => (by rw [h] at hr; cases hr), fun j hj hcj => ?_⟩
    by_cases hji : j = i
    · subst hji; exact hy.wpOp hi hCw ⟨Keep.refl w, H⟩
    · have := ready_mono hj hji
      rw [H.1] at this
      cases this
  | succ fuel ih =>
    intro listed a w hinv hf hr hmi hCw hy H
    refine ⟨fun h => (by rw [h] at hr; cases hr), fun j hj hcj => ?_⟩
    by_cases hji : j = i
    · subst hji; exact hy.wpOp hi hCw ⟨Keep.refl w, H⟩
    · have h1 := H.2 j (ready_mono hj hji) (mayC_mono _ hcj)
      obtain ⟨hjun, oj, hoj, hall⟩ := mem_ready.1 hj
      have hdj := not_waitsC hd (mem_ready.1 hr).1 hinv hj hcj
      obtain ⟨hap, hm⟩ := hf j hjun hji hdj (held_no (mem_ready.1 hr).1 hcj) oj hoj
      have h2 : wpOp P ops Q j (fun a' w' => C w' ∧ YieldsC P ops C oi v a' ∧ (Keep F j w w' ∧ wpAnyF P md ops Q F cc fuel ((listed.setIfInBounds i true).setIfInBounds j true) (a'.put oi.dst v) w')) a w := by
        rcases hm with hm | hm
        · exact wpOp_putC hb hC hoj hap (fun cs b => hsel i oi cs b hi) (fun cs b => hsel j oj cs b hoj) hCw (orMap hm id fun h => h _) hy h1
        · exact wpOp_putK hb hoj hap (fun cs b => hsel i oi cs b hi) (fun cs b => hsel j oj cs b hoj) hCw (fun a' w' hk => hC _ _ hCw (hk.1 hm)) hy h1
      refine wpOp_mono (fun a' w' h3 => ⟨h3.2.2.1, ih (listed.setIfInBounds j true) a' w' (inv_set hinv hdj) (fun k hk hki hdk hhk ok hok => ?_) (ready_mono hr (Ne.symm hji)) (mayC_mono _ hmi) h3.1 h3.2.1 ?_⟩) h2
      · by_cases hjk : j = k
        · subst hjk; exact hf j hjun hki hdk hhk ok hok
        · rw [getD_set_ne true hjk] at hk; exact hf k hk hki hdk hhk ok hok
      · rw [Array.setIfInBounds_comm _ _ hji]
        exact h3.2.2.2
theorem wpAnyF_eff (hb : NoBad Q) {i : Nat} {oi : Oper} {d : Nat → Bool} (hi : ops[i]? = some oi)
    (hsel : ∀ (j : Nat) (o : Oper) cs b, ops[j]? = some o → o.op ≠ .select cs b) (hd : WaitsC md ops cc i d) :
    ∀ (fuel : Nat) (listed : Array Bool) (a : Act) (w : World), (∀ j, d j = true → listed.getD j false = false) → (∀ j, listed.getD j true = false → j ≠ i → d j = false → held cc i j = false → ∀ oj, ops[j]? = some oj → oi.apart ops oj = true ∧ ∀ ρ, PureEx P (execOp ρ oj)) →
      i ∈ Region.ready md ops listed → mayC cc listed i = true →
      wpOp P ops Q i (fun a' w' => Keep F i w w' ∧ wpAnyF P md ops Q F cc fuel (listed.setIfInBounds i true) a' w') a w → wpAnyF P md ops Q F cc (fuel + 1) listed a w := by
  intro fuel
  induction fuel with
  | zero =>
    intro listed a w _ _ hr hmi H
    refine ⟨fun h => (by rw [h] at hr; cases hr), fun j hj hcj => ?_⟩
    by_cases hji : j = i
    · subst hji; exact H
    · obtain ⟨a1, w1, h1⟩ := wpOp_some hb hi H
      have := ready_mono hj hji
      rw [h1.2.1] at this
      cases this
  | succ fuel ih =>
    intro listed a w hinv hf hr hmi H
    refine ⟨fun h => (by rw [h] at hr; cases hr), fun j hj hcj => ?_⟩
    by_cases hji : j = i
    · subst hji; exact H
    · obtain ⟨hjun, oj, hoj, hall⟩ := mem_ready.1 hj
      have hdj := not_waitsC hd (mem_ready.1 hr).1 hinv hj hcj
      obtain ⟨hap, hpu⟩ := hf j hjun hji hdj (held_no (mem_ready.1 hr).1 hcj) oj hoj
      obtain ⟨p1, p2, p3⟩ := Oper.apart_spec hap
      have H' := wpOp_tmps hb hi H
      have hsame : ∀ a1 : Act, (∃ v, a1.tmps = (a.put oi.dst v).tmps) → execOp a1.eval oj = execOp a.eval oj ∧ Region.wanted oj (yielded ops a1.tmps) = Region.wanted oj (yielded ops a.tmps) := by
        rintro a1 ⟨v, hv⟩
        have he : a1.eval = (a.put oi.dst v).eval := by funext x; cases x <;> simp only [Act.eval, hv]
        rw [he, hv]
        exact ⟨execOp_put oj (fun cs b => hsel j oj cs b hoj) a oi.dst v p1, wanted_put oj a oi.dst v p1⟩
      obtain ⟨a1, w1, h1, ht⟩ := wpOp_some hb hi H'
      obtain ⟨u, hy1, _⟩ := wpOp_pure hb hoj (hpu _) (h1.2.2 j (ready_mono hj hji) (mayC_mono _ hcj))
      have hy : YieldsC P ops (fun _ => True) oj u a := hy1.of_same (hsame a1 ht).1.symm (hsame a1 ht).2.symm
      refine hy.wpOp hoj trivial ⟨Keep.refl w, ?_⟩
      refine ih (listed.setIfInBounds j true) (a.put oj.dst u) w (inv_set hinv hdj) (fun k hk hki hdk hhk ok hok => ?_) (ready_mono hr (Ne.symm hji)) (mayC_mono _ hmi) ?_
      · by_cases hjk : j = k
        · subst hjk; exact hf j hjun hki hdk hhk ok hok
        · rw [getD_set_ne true hjk] at hk; exact hf k hk hki hdk hhk ok hok
      · refine wpOp_back hb hi hap (fun cs b => hsel i oi cs b hi) (wpOp_mono (fun a2 w2 ⟨h2, ht2⟩ => ?_) H')
        obtain ⟨u', hy2, h3⟩ := wpOp_pure hb hoj (hpu _) (h2.2.2 j (ready_mono hj hji) (mayC_mono _ hcj))
        have hy2' : YieldsC P ops (fun _ => True) oj u' a := hy2.of_same (hsame a2 ht2).1.symm (hsame a2 ht2).2.symm
        have huu : u' = u := by
          rcases hy with ⟨hw, hv⟩ | ⟨hw, rfl⟩ <;> rcases hy2' with ⟨hw', hv'⟩ | ⟨hw', rfl⟩
          · have := (hv w trivial).symm.trans (hv' w trivial); simp only [Result.ok.injEq, Next.value.injEq, and_true] at this; exact this.symm
          · rw [hw] at hw'; cases hw'
          · rw [hw] at hw'; cases hw'
          · rfl
        rw [huu, Array.setIfInBounds_comm _ _ (Ne.symm hji)] at h3
        exact ⟨h2.1, h3.2⟩

theorem getD_put_ne {α : Type} (xs : Array α) (i j : Nat) (x d : α) (h : i ≠ j) : (xs.setIfInBounds i x).getD j d = xs.getD j d := by
  simp [Array.getD_eq_getD_getElem?, Array.getElem?_setIfInBounds, h]
/-! ### whole numbers -/
def isI : Value → Bool
  | .int _ _ => true
  | _ => false
def opI (is : List Nat) : Operand → Bool
  | .tmp t => is.contains t
  | .const v => isI v
  | _ => false
def intT (P : Program) (t : TypeId) : Bool := match P.underlying t with
  | some (.int _) => true
  | _ => false
def strT (P : Program) (t : TypeId) : Bool := match P.underlying t with
  | some .string => true
  | _ => false
def intOp (P : Program) (is : List Nat) : Op → Bool
  | .binOp _ _ x y _ => opI is x && opI is y
  | .convert s d x => intT P s && intT P d && opI is x
  | _ => false
def givesI (P : Program) (is : List Nat) : Op → Bool
  | .convert s d x => intT P s && intT P d && opI is x
  | .index t _ _ => strT P t
  | .call c => lenOf P c
  | .move x | .assign x => opI is x
  | .binOp bo _ x y _ => opI is x && opI is y && (match bo with | .add | .sub | .mul | .quo | .rem | .and | .or | .xor | .andNot | .shl | .shr => true | _ => false)
  | _ => false
def nextI (P : Program) (n : Nat) (is : List Nat) (o : Oper) : List Nat := match o.dst with
  | none => is
  | some d => if o.guard.isNone && decide (d < n) && givesI P is o.op then d :: is else is.filter (· != d)
abbrev KnowsI (n : Nat) (is : List Nat) (a : Act) : Prop := n ≤ a.tmps.size ∧ ∀ s ∈ is, isI (a.eval (.tmp s)) = true
theorem KnowsI.op {n : Nat} {is : List Nat} {a : Act} (h : KnowsI n is a) {x : Operand} (hx : opI is x = true) : ∃ k z, a.eval x = .int k z := by
  have : isI (a.eval x) = true := by
    cases x with
    | tmp t => exact h.2 t (by simpa [opI] using hx)
    | const v => exact hx
    | _ => cases hx
  cases hv : a.eval x <;> rw [hv] at this <;> first | cases this | skip
  exact ⟨_, _, rfl⟩
theorem calm_eqGuardI (o : BinOp) (t : TypeId) (x y : Operand) (k l : IntKind) (m n : Int) : Calm P (eqGuard o t x y (.int k m) (.int l n)) := by
  unfold eqGuard
  split <;> exact calm_pure _
theorem calm_binI (bo : BinOp) (t : TypeId) (k l : IntKind) (m n : Int) : Calm P (binOp bo t (.int k m) (.int l n)) := by
  have h0 : Calm P (if k ≠ l then stuck "BinOp: operands of different kinds" else
    match bo with
    | .add | .sub | .mul => Op.intArith bo k m n
    | .quo | .rem => Op.intDiv bo k m n
    | .and | .or | .xor | .andNot => Op.intBits bo k m n
    | _ => Op.intCmp bo m n) := by
    split
    · exact (dies_stuck _).calm
    · split <;> first | exact calm_intArith _ _ _ _ | exact calm_intDiv _ _ _ _ | exact calm_intBits _ _ _ _ | exact calm_intCmp _ _ _
  cases bo <;> first | exact h0 | (unfold binOp; exact calm_shift _ _ _ _ _)
theorem run_conv_int {s d : TypeId} (hs : intT P s = true) (hd : intT P d = true) (k : IntKind) (m : Int) : ∃ k', ∀ w, (convert s d (.int k m)).run P w = .ok (.int k' (k'.wrap m)) w := by
  unfold intT at hs hd
  split at hs
  · rename_i ks es
    split at hd
    · rename_i kd ed
      refine ⟨kd, fun w => ?_⟩
      unfold convert
      simp only [Sem.run_bind, run_underlying es, run_underlying ed, Result.andThen_ok, Conv.intToInt, Sem.run_pure]
    · cases hd
  · cases hs
theorem str_index {t : TypeId} (ht : strT P t = true) (x i : Value) {w w' : World} {v : Value} (h : (Instr.index t x i).run P w = .ok v w') : isI v = true := by
  unfold strT at ht
  split at ht
  · rename_i et
    unfold Instr.index at h
    obtain ⟨y, w1, h1, h2⟩ := ok_bind h
    obtain ⟨u, w2, h3, h4⟩ := ok_bind h2
    rw [run_underlying et] at h3
    injection h3 with h5 h6
    subst h5
    cases x with
    | string s =>
      simp only at h4
      split at h4
      · simp only [Sem.run_pure, Result.ok.injEq] at h4
        obtain ⟨rfl, _⟩ := h4; rfl
      · exact absurd h4 (dies_boundsPanic _ _ _ _ _ _ _)
    | _ => exact absurd h4 (dies_stuck _ _ _ _)
  · cases ht
theorem len_isI (t : TypeId) (ty : TypeId) (x : Value) (h : (match P.underlying t with | some .string | some (.slice _) => true | _ => false) = true) {w w' : World} {r : Value} (hr : (Builtin.len_ #[t] ty #[x]).run P w = .ok r w') : isI r = true := by
  unfold Builtin.len_ at hr
  simp only [List.getElem?_toArray, List.getElem?_cons_zero] at hr
  obtain ⟨d, w1, h1, h2⟩ := ok_bind hr
  have hd : P.underlying t = some d := by
    unfold underlying at h1
    obtain ⟨p, w2, h5, h6⟩ := ok_bind h1
    simp only [run_program, Result.ok.injEq] at h5
    obtain ⟨rfl, rfl⟩ := h5
    cases hu : P.underlying t with
    | none => rw [hu] at h6; cases h6
    | some d' => rw [hu] at h6; simp only [Sem.run_pure, Result.ok.injEq] at h6; rw [h6.1]
  rw [hd] at h
  cases d <;> simp only [] at h <;> try (cases h; done)
  · cases x <;> simp only [] at h2 <;> first
      | (simp only [Sem.run_pure, Result.ok.injEq] at h2; obtain ⟨rfl, rfl⟩ := h2; rfl)
      | (simp only [run_stuck] at h2; cases h2; done)
  · cases x <;> simp only [] at h2 <;> first
      | (simp only [Sem.run_pure, Result.ok.injEq] at h2; obtain ⟨rfl, rfl⟩ := h2; rfl)
      | (simp only [run_stuck] at h2; cases h2; done)
theorem pureEx_int {n : Nat} {is : List Nat} {a : Act} (h : KnowsI n is a) (o : Oper) (ho : intOp P is o.op = true) : PureEx P (execOp a.eval o) := by
  obtain ⟨dst, op, type, pos, after, guard⟩ := o
  cases op <;> simp only [intOp] at ho <;> try (cases ho; done)
  case convert src dst x =>
    simp only [Bool.and_eq_true] at ho
    obtain ⟨k, m, hx⟩ := h.op ho.2
    obtain ⟨k', hr⟩ := run_conv_int (P := P) ho.1.1 ho.1.2 k m
    refine pureEx_of (s := convert src dst (a.eval x)) ?_
    rw [hx]
    intro w w' v hv
    rw [hr] at hv
    injection hv with h1 h2
    subst h1
    subst h2
    exact ⟨rfl, fun u => hr u⟩
  rename_i bo t x y yt
  simp only [Bool.and_eq_true] at ho
  obtain ⟨k, m, hx⟩ := h.op ho.1
  obtain ⟨l, n', hy⟩ := h.op ho.2
  refine pureEx_of (s := do eqGuard bo t x y (a.eval x) (a.eval y); binOp bo t (a.eval x) (a.eval y)) ?_
  rw [hx, hy]
  exact calm_bind (calm_eqGuardI _ _ _ _ _ _ _ _) fun _ => calm_binI _ _ _ _ _ _
/-- what an operation gives -/
def GivesI (P : Program) (s : Sem Value) : Prop := ∀ w w' v, s.run P w = .ok v w' → isI v = true
theorem givesI_pure (k : IntKind) (z : Int) : GivesI P (pure (.int k z)) := fun w w' v h => by
  simp only [Sem.run_pure, Result.ok.injEq] at h; obtain ⟨rfl, _⟩ := h; rfl
theorem givesI_dies {s : Sem Value} (h : Dies P s) : GivesI P s := fun w w' v hv => absurd hv (h _ _ _)
theorem givesI_bin (bo : BinOp) (hbo : (match bo with | .add | .sub | .mul | .quo | .rem | .and | .or | .xor | .andNot | .shl | .shr => true | _ => false) = true) (t : TypeId) (k l : IntKind) (m n : Int) : GivesI P (binOp bo t (.int k m) (.int l n)) := by
  have hS : GivesI P (Op.shift bo k m l n) := by
    unfold Op.shift
    split
    · exact givesI_dies (dies_runtimePanic _)
    · dsimp only
      split <;> first | exact givesI_pure _ _ | exact givesI_dies (dies_stuck _)
  have h0 : (match bo with | .add | .sub | .mul | .quo | .rem | .and | .or | .xor | .andNot => true | _ => false) = true → GivesI P (if k ≠ l then stuck "BinOp: operands of different kinds" else
    match bo with
    | .add | .sub | .mul => Op.intArith bo k m n
    | .quo | .rem => Op.intDiv bo k m n
    | .and | .or | .xor | .andNot => Op.intBits bo k m n
    | _ => Op.intCmp bo m n) := by
    intro hb
    split
    · exact givesI_dies (dies_stuck _)
    · cases bo <;> first
        | (cases hb; done)
        | exact givesI_pure _ _
        | (simp only [Op.intDiv]; split <;> first | exact givesI_dies (dies_runtimePanic _) | exact givesI_pure _ _)
  cases bo <;> first | (cases hbo; done) | exact h0 rfl | (unfold binOp; exact hS)
theorem givesI_spec {n : Nat} {is : List Nat} {a : Act} (h : KnowsI n is a) (o : Oper) (ho : givesI P is o.op = true) {w w' : World} {v : Value} (hr : (execOp a.eval o).run P w = .ok (.value v) w') : isI v = true := by
  obtain ⟨dst, op, type, pos, after, guard⟩ := o
  have key : ∀ {s : Sem Value}, GivesI P s → (do pure (Next.value (← s)) : Sem Next).run P w = .ok (.value v) w' → isI v = true := by
    intro s hs hr
    obtain ⟨y, w1, h1, h2⟩ := ok_bind hr
    simp only [Sem.run_pure, Result.ok.injEq, Next.value.injEq] at h2
    obtain ⟨rfl, rfl⟩ := h2
    exact hs _ _ _ h1
  cases op <;> simp only [givesI] at ho <;> try (cases ho; done)
  case move x =>
    obtain ⟨k, z, hx⟩ := h.op ho
    exact key (s := pure (a.eval x)) (by rw [hx]; exact givesI_pure _ _) hr
  case assign x =>
    obtain ⟨k, z, hx⟩ := h.op ho
    exact key (s := pure (a.eval x)) (by rw [hx]; exact givesI_pure _ _) hr
  case convert src dst x =>
    simp only [Bool.and_eq_true] at ho
    obtain ⟨k, m, hx⟩ := h.op ho.2
    obtain ⟨k', hr'⟩ := run_conv_int (P := P) ho.1.1 ho.1.2 k m
    refine key (s := convert src dst (a.eval x)) ?_ hr
    rw [hx]
    intro w w' v hv
    rw [hr'] at hv
    injection hv with h1 h2
    subst h1; rfl
  case index t x i =>
    exact key (s := Instr.index t (a.eval x) (a.eval i)) (fun w w' v hv => str_index ho _ _ hv) hr
  case call c =>
    obtain ⟨callee, args, argTypes⟩ := c
    cases callee <;> simp only [lenOf] at ho <;> try (cases ho; done)
    rename_i b
    cases b <;> simp only [] at ho <;> try (cases ho; done)
    simp only [Bool.and_eq_true, beq_iff_eq] at ho
    obtain ⟨h1, h2⟩ := ho
    obtain ⟨al⟩ := args
    obtain ⟨tl⟩ := argTypes
    simp only [] at h1 h2
    match al, tl, h1, h2 with
    | [x], [t], _, h2 =>
      have e : execOp a.eval { dst, op := .call { callee := .builtin .len, args := ⟨[x]⟩, argTypes := ⟨[t]⟩ }, type, pos, after, guard } = (do pure (Next.value (← Builtin.len_ #[t] type #[a.eval x]))) := by
        simp only [execOp, resolve, invoke, builtin, pure_bind, List.map_toArray, List.map_cons, List.map_nil]
      rw [e] at hr
      exact key (s := Builtin.len_ #[t] type #[a.eval x]) (fun w w' v hv => len_isI _ _ _ h2 hv) hr
  case binOp bo t x y yt =>
    simp only [Bool.and_eq_true] at ho
    obtain ⟨k, m, hx⟩ := h.op ho.1.1
    obtain ⟨l, n', hy⟩ := h.op ho.1.2
    refine key (s := do eqGuard bo t x y (a.eval x) (a.eval y); binOp bo t (a.eval x) (a.eval y)) ?_ hr
    rw [hx, hy]
    intro w w' v hv
    obtain ⟨y, w1, h1, h2⟩ := ok_bind hv
    exact givesI_bin bo ho.2 _ _ _ _ _ _ _ _ h2
theorem KnowsI.put {n : Nat} {is : List Nat} {a : Act} (h : KnowsI n is a) (o : Oper) (v : Value) (hv : o.guard.isNone = true → givesI P is o.op = true → isI v = true) : KnowsI n (nextI P n is o) (a.put o.dst v) := by
  unfold nextI
  cases hd : o.dst with
  | none => exact h
  | some d =>
    refine ⟨by simpa [Act.put] using h.1, fun s hs => ?_⟩
    dsimp only at hs
    have hne : s ≠ d → (a.put (some d) v).eval (.tmp s) = a.eval (.tmp s) := fun hsd => by
      simp only [Act.eval, Act.put]; exact getD_put_ne _ _ _ _ _ (Ne.symm hsd)
    split at hs
    · rename_i hc
      simp only [Bool.and_eq_true, decide_eq_true_eq] at hc
      by_cases hsd : s = d
      · subst hsd
        have : (a.put (some s) v).eval (.tmp s) = v := by
          have := h.1
          have hlt : s < a.tmps.size := Nat.lt_of_lt_of_le hc.1.2 h.1
          simp [Act.eval, Act.put, hlt]
        rw [this]; exact hv hc.1.1 hc.2
      · rw [hne hsd]; exact h.2 s (by simpa [hsd] using hs)
    · simp only [List.mem_filter, bne_iff_ne] at hs
      rw [hne hs.2]; exact h.2 s hs.1
theorem KnowsI.of_tmps {n : Nat} {is : List Nat} {a b : Act} (h : KnowsI n is a) (e : b.tmps = a.tmps) : KnowsI n is b :=
  ⟨by rw [e]; exact h.1, fun s hs => by have := h.2 s hs; simp only [Act.eval, e] at this ⊢; exact this⟩
def leftI (is : List Nat) (o : Oper) : List Nat := match o.dst with
  | none => is
  | some d => is.filter (· != d)

/-! ### the Bool -/
def pureI (P : Program) (is : List Nat) (op : Op) : Bool := pureOp P op || intOp P is op
def besideF (P : Program) (ops : Array Oper) (marks : List Nat) (is : List Nat) (oi oj : Oper) (j : Nat) : Bool :=
  oi.apart ops oj && (pureI P is oi.op || pureOp P oj.op || (readOp P oi.op && (meekOp P oj.op || marks.contains j)))
def waitsForC (md : Region.Mode) (ops : Array Oper) (c : List (Nat × Nat)) (i : Nat) : List Bool :=
  ops.toList.foldl (fun acc o => acc ++ [held c i acc.length || o.after.toList.any fun e => Region.binds md e && (e.on == i || acc.getD e.on false)]) []
def waitsOkC (md : Region.Mode) (ops : Array Oper) (c : List (Nat × Nat)) (i : Nat) (d : List Bool) : Bool :=
  (List.range ops.size).all fun j => !d.getD j false || held c i j || match ops[j]? with
    | some o => o.after.toList.any fun e => Region.binds md e && (e.on == i || d.getD e.on false)
    | none => true
theorem waitsOkC_spec {c : List (Nat × Nat)} {i : Nat} {d : List Bool} (h : waitsOkC md ops c i d = true) : WaitsC md ops c i (fun j => d.getD j false) := fun j oj hoj hd => by
  simp only [waitsOkC, List.all_eq_true, List.mem_range] at h
  have h1 := h j (Array.getElem?_eq_some_iff.1 hoj).1
  simp only [hd, hoj, Bool.not_true, Bool.false_or, List.any_eq_true, Bool.and_eq_true, Bool.or_eq_true, beq_iff_eq] at h1
  rcases h1 with h1 | ⟨e, he, hb, hor⟩
  · exact .inr h1
  · exact .inl ⟨e, by simpa using he, hb, hor⟩
def freeF (P : Program) (md : Region.Mode) (ops : Array Oper) (c : List (Nat × Nat)) (marks is : List Nat) (listed : Array Bool) (k : Nat) (ok : Oper) : Bool :=
  let d := waitsForC md ops c k
  waitsOkC md ops c k d && (d.length == ops.size) && (List.range ops.size).all (fun j => !d.getD j false || !listed.getD j false) &&
  (List.range ops.size).all fun j => listed.getD j true || j == k || d.getD j false || held c k j || match ops[j]? with
    | some oj => besideF P ops marks is ok oj j
    | none => true
def serialF (P : Program) (md : Region.Mode) (ops : Array Oper) (c : List (Nat × Nat)) (n : Nat) (marks : List Nat) : List Nat → List Nat → Array Bool → Bool
  | [], _, listed => (Region.ready md ops listed).isEmpty
  | k :: ord, is, listed => match ops[k]? with
    | none => false
    | some o => (Region.ready md ops listed).contains k && mayC c listed k && freeF P md ops c marks is listed k o && serialF P md ops c n marks ord (if pureI P is o.op then nextI P n is o else leftI is o) (listed.setIfInBounds k true)
def wpOrd (P : Program) (ops : Array Oper) (Q : Exit → Act → World → Prop) (F : Nat → Bool) : List Nat → Act → World → Prop
  | [], a, w => Q .normal a w
  | k :: ord, a, w => wpOp P ops Q k (fun a' w' => Keep F k w w' ∧ wpOrd P ops Q F ord a' w') a w
theorem leftI_put {n : Nat} {is : List Nat} {a : Act} (h : KnowsI n is a) (o : Oper) (v : Value) : KnowsI n (leftI is o) (a.put o.dst v) := by
  unfold leftI
  cases hd : o.dst with
  | none => exact h
  | some d =>
    refine ⟨by simpa [Act.put] using h.1, fun s hs => ?_⟩
    simp only [List.mem_filter, bne_iff_ne] at hs
    have : (a.put (some d) v).eval (.tmp s) = a.eval (.tmp s) := by
      simp only [Act.eval, Act.put]; exact getD_put_ne _ _ _ _ _ (Ne.symm hs.2)
    rw [this]; exact h.2 s hs.1
theorem serialF_lex (hb : NoBad Q) (hs : Region.noSelect ops = true) (n : Nat) (marks : List Nat) : ∀ (ord is : List Nat) (listed : Array Bool) (a : Act) (w : World), KnowsI n is a →
    serialF P md ops cc n marks ord is listed = true → wpOrd P ops Q (fun i => marks.contains i) ord a w → wpAnyF P md ops Q (fun i => marks.contains i) cc ord.length listed a w
  | [], _, _, _, _, _, hB, h => ⟨by simpa [serialF] using hB, by simpa [wpOrd] using h⟩
  | k :: ord, is, listed, a, w, hI, hB, h => by
    cases h0 : ops[k]? with
    | none => simp only [serialF, h0] at hB; cases hB
    | some o =>
    simp only [serialF, h0, Bool.and_eq_true] at hB
    obtain ⟨⟨⟨hr, hmi⟩, hf⟩, hB'⟩ := hB
    have hready : k ∈ Region.ready md ops listed := by simpa using hr
    simp only [freeF, Bool.and_eq_true, List.all_eq_true, List.mem_range, beq_iff_eq] at hf
    obtain ⟨⟨⟨hw1, hlen⟩, hw2⟩, hw3⟩ := hf
    have hd := waitsOkC_spec hw1
    have hinv : ∀ j, (fun j => (waitsForC md ops cc k).getD j false) j = true → listed.getD j false = false := fun j hj => by
      rcases Nat.lt_or_ge j ops.size with h' | h'
      · have := hw2 j h'
        simp only [hj, Bool.not_true, Bool.false_or] at this
        simpa using this
      · have hj' : (waitsForC md ops cc k).getD j false = true := hj
        rw [List.getD, List.getElem?_eq_none (by omega)] at hj'
        cases hj'
    have hfree : ∀ j, listed.getD j true = false → j ≠ k → (fun j => (waitsForC md ops cc k).getD j false) j = false → held cc k j = false → ∀ oj, ops[j]? = some oj → besideF P ops marks is o oj j = true := fun j hj hjk hdj hh oj hoj => by
      have h1 := hw3 j (Array.getElem?_eq_some_iff.1 hoj).1
      have hdj' : (waitsForC md ops cc k).getD j false = false := hdj
      simp only [hoj, hj, hdj', hh, Bool.or_false, Bool.false_or, Bool.or_eq_true, beq_iff_eq] at h1
      exact h1.resolve_left hjk
    have h' : wpOp P ops Q k (fun a' w' => Keep (fun i => marks.contains i) k w w' ∧ wpOrd P ops Q (fun i => marks.contains i) ord a' w') a w := h
    simp only [besideF, Bool.and_eq_true, Bool.or_eq_true] at hfree
    by_cases hp : pureI P is o.op = true
    · rw [if_pos hp] at hB'
      have hpe : PureEx P (execOp a.eval o) := by
        simp only [pureI, Bool.or_eq_true] at hp
        rcases hp with hp | hp
        · exact pureEx_op _ _ hp
        · exact pureEx_int hI o hp
      obtain ⟨v, hy, hK⟩ := wpOp_pure hb h0 hpe h'
      refine wpAnyF_rd hb (C := fun _ => True) (fun _ _ _ _ => trivial) h0 (Region.noSelect_spec hs) hd _ _ _ _ hinv
        (fun j hj hjk hdj hh oj hoj => ⟨(hfree j hj hjk hdj hh oj hoj).1, .inl (.inl fun _ => trivial)⟩) hready hmi trivial hy
        (serialF_lex hb hs n marks ord _ _ _ _ (hI.put o v fun hg hgi => ?_) hB' hK.2)
      rcases hy with ⟨_, hv⟩ | ⟨hw, rfl⟩
      · exact givesI_spec hI o hgi (hv w trivial)
      · exfalso
        unfold Region.wanted at hw
        cases hgd : o.guard with
        | none => rw [hgd] at hw; cases hw
        | some g => rw [hgd] at hg; cases hg
    · rw [if_neg hp] at hB'
      have h2 := wpOp_tmps hb h0 h'
      have H : wpOp P ops Q k (fun a' w' => Keep (fun i => marks.contains i) k w w' ∧ wpAnyF P md ops Q (fun i => marks.contains i) cc ord.length (listed.setIfInBounds k true) a' w') a w :=
        wpOp_mono (fun a' w' hk => ⟨hk.1.1, by
          obtain ⟨v, hv⟩ := hk.2
          exact serialF_lex hb hs n marks ord _ _ a' w' ((leftI_put hI o v).of_tmps hv) hB' hk.1.2⟩) h2
      have hpo : pureOp P o.op ≠ true := fun hc => hp (by simp [pureI, hc])
      by_cases hrd : readOp P o.op = true
      · obtain ⟨v, hy, hK⟩ := wpOp_rd hb h0 (rdEx_op _ _ hrd) H
        exact wpAnyF_rd hb (C := Ext w) (fun _ _ h k => h.trans k) h0 (Region.noSelect_spec hs) hd _ _ _ _ hinv
          (fun j hj hjk hdj hh oj hoj => ⟨(hfree j hj hjk hdj hh oj hoj).1, by
            rcases (hfree j hj hjk hdj hh oj hoj).2 with (h1 | h1) | h1
            · exact absurd h1 hp
            · exact .inl (.inr fun ρ => (pureEx_op _ _ h1).rd.meek)
            · rcases h1.2 with h1 | h1
              · exact .inl (.inr fun ρ => meekEx_op _ _ h1)
              · exact .inr h1⟩) hready hmi (Ext.refl _) hy hK.2
      · exact wpAnyF_eff hb h0 (Region.noSelect_spec hs) hd _ _ _ _ hinv
          (fun j hj hjk hdj hh oj hoj => ⟨(hfree j hj hjk hdj hh oj hoj).1, fun ρ => by
            rcases (hfree j hj hjk hdj hh oj hoj).2 with (h1 | h1) | h1
            · exact absurd h1 hp
            · exact pureEx_op _ _ h1
            · exact absurd h1.1 hrd⟩) hready hmi H

/-! ### how it is walked -/
theorem wp_swapQ (hb : NoBad Q) {K K2 : Act → World → Prop} {o : Oper} {a : Act} {w : World} (h : o.wp P a w K (Exit.then K2 Q)) : o.wp P a w K Q := by
  unfold Oper.wp at *
  generalize (execOp a.eval o).run P w = r at *
  cases r with
  | ok n w' =>
    cases n <;> simp only [Oper.upon] at h ⊢
    case value u => exact h
    case skip => exact h
    case defer d => exact h
    case enter f args =>
      refine Calls.mono h fun e w'' he => ?_
      cases e with
      | returned u => exact he
      | panicked c => exact absurd he (hb.pan _ _ _)
      | outgrown => exact absurd he (NoBad.then hb).lets
    case row row args => exact h
  | halt x w' =>
    cases x <;> simp only [Oper.upon] at h ⊢
    exact absurd h (hb.pan _ _ _)
theorem wpOrd_list (hb : NoBad Q) {K : Act → World → Prop} (rest : List Nat) (hK : ∀ a w, K a w → wpOrd P ops Q F rest a w) : ∀ (ord : List Nat) (l : List Oper) (a : Act) (w : World), (∀ i ∈ ord, F i = false) → ord.map (ops[·]?) = l.map some →
    wpList P ops (Exit.then K Q) l a w → wpOrd P ops Q F (ord ++ rest) a w
  | [], l, a, w, _, hl, h => by
    obtain rfl : l = [] := by simpa using hl.symm
    exact hK _ _ h
  | k :: ord, l, a, w, hF, hl, h => by
    match l, hl with
    | o :: l, hl =>
      simp only [List.map_cons, List.cons.injEq] at hl
      show wpOp P ops Q k _ a w
      have hih : ∀ a' w', wpList P ops (Exit.then K Q) l a' w' → Keep F k w w' ∧ wpOrd P ops Q F (ord ++ rest) a' w' := fun a' w' h =>
        ⟨fun hc => (by rw [hF k (by simp)] at hc; cases hc), wpOrd_list hb rest hK ord l a' w' (fun i hi => hF i (by simp [hi])) hl.2 h⟩
      have hih0 : ∀ a' w', wpList P ops (Exit.then K Q) l a' w' → (fun a' w' => Keep F k w w' ∧ wpOrd P ops Q F (ord ++ rest) a' w') a' w' := hih
      unfold Go.wpOp
      simp only [hl.1]
      simp only [wpList] at h
      split
      · rename_i hw
        rw [if_pos hw] at h
        rcases h with h | h
        · exact .inl (Oper.wp_mono hih0 (wp_swapQ hb h))
        · exact absurd h.2 (NoBad.then hb).lets
      · rename_i hw
        rw [if_neg hw] at h
        exact hih _ _ h
theorem wpOrd_mark (hb : NoBad Q) (k : Nat) (c : Oper) (rest : List Nat) (hc : ops[k]? = some c) {K : World → Act → World → Prop} (hK : ∀ w a' w', K w a' w' → Ext w w' ∧ wpOrd P ops Q F rest a' w') {a : Act} {w : World}
    (h : wpList P ops (Exit.then (K w) Q) [c] a w) : wpOrd P ops Q F (k :: rest) a w := by
  show wpOp P ops Q k _ a w
  have hih : ∀ a' w', wpList P ops (Exit.then (K w) Q) [] a' w' → (fun a' w' => Keep F k w w' ∧ wpOrd P ops Q F rest a' w') a' w' := fun a' w' h => by
    have h1 : K w a' w' := h
    exact ⟨fun _ => (hK _ _ _ h1).1, (hK _ _ _ h1).2⟩
  unfold Go.wpOp
  simp only [hc]
  simp only [wpList] at h
  split
  · rename_i hw
    rw [if_pos hw] at h
    rcases h with h | h
    · exact .inl (Oper.wp_mono (fun a' w' k => hih a' w' (by simpa only [wpList] using k)) (wp_swapQ hb h))
    · exact absurd h.2 (NoBad.then hb).lets
  · rename_i hw
    rw [if_neg hw] at h
    exact hih _ _ (by simpa only [wpList] using h)
theorem wpOrd_last (hb : NoBad Q) : ∀ (ord : List Nat) (l : List Oper) (a : Act) (w : World), (∀ i ∈ ord, F i = false) → ord.map (ops[·]?) = l.map some → wpList P ops Q l a w → wpOrd P ops Q F ord a w
  | [], l, a, w, _, hl, h => by
    obtain rfl : l = [] := by simpa using hl.symm
    exact h
  | k :: ord, l, a, w, hF, hl, h => by
    match l, hl with
    | o :: l, hl =>
      simp only [List.map_cons, List.cons.injEq] at hl
      show wpOp P ops Q k _ a w
      have hih : ∀ a' w', wpList P ops Q l a' w' → (fun a' w' => Keep F k w w' ∧ wpOrd P ops Q F ord a' w') a' w' := fun a' w' h =>
        ⟨fun hc => (by rw [hF k (by simp)] at hc; cases hc), wpOrd_last hb ord l a' w' (fun i hi => hF i (by simp [hi])) hl.2 h⟩
      unfold Go.wpOp
      simp only [hl.1]
      simp only [wpList] at h
      split
      · rename_i hw
        rw [if_pos hw] at h
        exact orMap h (Oper.wp_mono hih) id
      · rename_i hw
        rw [if_neg hw] at h
        exact hih _ _ h
/-- the walk: up to each marked operation, it, and on -/
def wpSegs (P : Program) (ops : Array Oper) (Q : Exit → Act → World → Prop) : List (List Oper × Oper) → List Oper → Act → World → Prop
  | [], l => wpList P ops Q l
  | (l1, c) :: r, l => wpList P ops (Exit.then (fun a1 w1 => wpList P ops (Exit.then (fun a2 w2 => Ext w1 w2 ∧ wpSegs P ops Q r l a2 w2) Q) [c] a1 w1) Q) l1
def segOrd (segs : List (List Nat × Nat)) (last : List Nat) : List Nat := segs.foldr (fun s acc => s.1 ++ (s.2 :: acc)) last
def serial3 (P : Program) (ops : Array Oper) (c : List (Nat × Nat)) (n : Nat) (is : List Nat) (segs : List (List Nat × Nat)) (last : List Nat) : Bool :=
  Region.noSelect ops && serialF P .any ops c n (segs.map (·.2)) (segOrd segs last) is (Array.replicate ops.size false) && (segOrd segs last).length == ops.size
  && segs.all (fun s => s.1.all fun i => !(segs.map (·.2)).contains i) && last.all fun i => !(segs.map (·.2)).contains i
theorem wpSegs_ord (hb : NoBad Q) (last : List Nat) (lL : List Oper) (hL : last.map (ops[·]?) = lL.map some) (hFL : ∀ i ∈ last, F i = false) : ∀ (segs : List (List Nat × Nat)) (lS : List (List Oper × Oper)) (a : Act) (w : World),
    (∀ s ∈ segs, ∀ i ∈ s.1, F i = false) → segs.map (fun s => (s.1.map (ops[·]?), ops[s.2]?)) = lS.map (fun s => (s.1.map some, some s.2)) → wpSegs P ops Q lS lL a w → wpOrd P ops Q F (segOrd segs last) a w
  | [], lS, a, w, _, hS, h => by
    obtain rfl : lS = [] := by simpa using hS.symm
    exact wpOrd_last hb last lL a w hFL hL h
  | s :: segs, lS, a, w, hF, hS, h => by
    match lS, hS with
    | (l1, c) :: lS, hS =>
      simp only [List.map_cons, List.cons.injEq, Prod.mk.injEq] at hS
      refine wpOrd_list hb (s.2 :: segOrd segs last) (fun a1 w1 h1 => ?_) s.1 l1 a w (hF s (by simp)) hS.1.1 h
      exact wpOrd_mark hb s.2 c (segOrd segs last) hS.1.2 (K := fun w1 a2 w2 => Ext w1 w2 ∧ wpSegs P ops Q lS lL a2 w2) (fun w a' w' hk => ⟨hk.1, wpSegs_ord hb last lL hL hFL segs lS a' w' (fun s hs => hF s (by simp [hs])) hS.2 hk.2⟩) h1
theorem serial3_any (n : Nat) (is : List Nat) (segs : List (List Nat × Nat)) (last : List Nat) {a : Act} {w : World} (lS : List (List Oper × Oper)) (lL : List Oper)
    (hB : serial3 P ops cc n is segs last = true) (hS : segs.map (fun s => (s.1.map (ops[·]?), ops[s.2]?)) = lS.map (fun s => (s.1.map some, some s.2))) (hL : last.map (ops[·]?) = lL.map some)
    (hI : KnowsI n is a) (hb : NoBad Q) (h : wpSegs P ops Q lS lL a w) : wpAnyC P .any ops Q cc ops.size (Array.replicate ops.size false) a w := by
  simp only [serial3, Bool.and_eq_true, beq_iff_eq, List.all_eq_true, Bool.not_eq_true'] at hB
  obtain ⟨⟨⟨⟨hs, hF⟩, hlen⟩, h1⟩, h2⟩ := hB
  have := serialF_lex (md := .any) hb hs n (segs.map (·.2)) (segOrd segs last) is _ a w hI hF (wpSegs_ord hb last lL hL h2 segs lS a w h1 hS h)
  rw [hlen] at this
  exact this.any
theorem obeys_nil : ∀ (l : List Nat) (L : Array Bool), obeys [] L l = true
  | [], _ => rfl
  | i :: l, L => by simp only [obeys, mayC, List.all_nil, Bool.true_and]; exact obeys_nil l _
theorem obeys_app (c d : List (Nat × Nat)) : ∀ (l : List Nat) (L : Array Bool), obeys c L l = true → obeys d L l = true → obeys (c ++ d) L l = true
  | [], _, _, _ => rfl
  | i :: l, L, h, k => by
    simp only [obeys, mayC, List.all_append, Bool.and_eq_true] at *
    exact ⟨⟨h.1, k.1⟩, obeys_app c d l _ h.2 k.2⟩
/-- where x may stand among cs -/
def places (x : Nat) : List Nat → List (Nat × Nat) → List (List (Nat × Nat))
  | [], c => [c]
  | k :: cs, c => (c ++ [(k, x)]) :: places x cs (c ++ [(x, k)])
theorem places_all (x : Nat) : ∀ (cs : List Nat) (c : List (Nat × Nat)) (l : List Nat) (L : Array Bool), (∀ k ∈ cs, x ≠ k) → (∀ i ∈ l, i < L.size) → obeys c L l = true → ∃ d ∈ places x cs c, obeys d L l = true
  | [], c, l, L, _, _, h => ⟨c, by simp [places], h⟩
  | k :: cs, c, l, L, hx, hL, h => by
    rcases obeys_or (hx k (by simp)) l L hL with h1 | h1
    · obtain ⟨d, hd, h2⟩ := places_all x cs (c ++ [(x, k)]) l L (fun i hi => hx i (by simp [hi])) hL (obeys_app _ _ _ _ h h1)
      exact ⟨d, by simp [places, hd], h2⟩
    · exact ⟨c ++ [(k, x)], by simp [places], obeys_app _ _ _ _ h h1⟩
theorem wp_places (x : Nat) (cs : List Nat) {id : Nat} {a : Act} {w : World} {l : List Oper} (hm : P.follows .mixedOrders = true) (hx : cs.all (· != x) = true)
    (h : ∀ d ∈ places x cs [], wpAnyC P .any l.toArray Q d l.toArray.size (Array.replicate l.toArray.size false) a w.drew) : (Code.region id l.toArray true).wp P Q a w := by
  refine wp_region_draw fun t => ?_
  simp only [Region.schedule, hm, Bool.true_or, if_true]
  change wpOps P l.toArray Q (Region.linearise.go .any l.toArray l.toArray.size t (Array.replicate l.toArray.size false) []) a w.drew
  have hlt := lin_lt (md := .any) (ops := l.toArray) l.toArray.size t (Array.replicate l.toArray.size false) (by simp)
  obtain ⟨d, hd, h2⟩ := places_all x cs [] _ (Array.replicate l.toArray.size false) (fun k hk => by have := List.all_eq_true.1 hx k hk; simp at this; exact Ne.symm this) (fun i hi => by simpa using hlt i hi) (obeys_nil (Region.linearise.go .any l.toArray l.toArray.size t (Array.replicate l.toArray.size false) []) _)
  exact wpAnyC_sound _ t _ _ _ h2 (h d hd)
/-- **one order for all** -/
theorem wp_serial3 (n : Nat) (is : List Nat) (segs : List (List Nat × Nat)) (last : List Nat) {id : Nat} {a : Act} {w : World} {l : List Oper} (lS : List (List Oper × Oper)) (lL : List Oper) (hm : P.follows .mixedOrders = true)
    (hB : serial3 P l.toArray [] n is segs last = true) (hS : segs.map (fun s => (s.1.map (l.toArray[·]?), l.toArray[s.2]?)) = lS.map (fun s => (s.1.map some, some s.2))) (hL : last.map (l.toArray[·]?) = lL.map some)
    (hI : KnowsI n is a) (hb : NoBad Q) (h : wpSegs P l.toArray Q lS lL a w.drew) : (Code.region id l.toArray true).wp P Q a w :=
  wp_places 0 [] hm rfl fun d hd => by
    obtain rfl : d = [] := by simpa [places] using hd
    exact serial3_any n is segs last lS lL hB hS hL (hI.of_tmps rfl) hb h
/-- **one operation x that may stand anywhere among the chain cs: a walk for each place** -/
def wpAll (P : Program) (ops : Array Oper) (Q : Exit → Act → World → Prop) (a : Act) (w : World) : List (List Oper) → Prop
  | [] => True
  | l :: r => wpList P ops Q l a w ∧ wpAll P ops Q a w r
theorem wp_serial4 (n : Nat) (is : List Nat) (x : Nat) (cs : List Nat) (ords : List (List Nat)) {id : Nat} {a : Act} {w : World} {l : List Oper} (lS : List (List Oper)) (hm : P.follows .mixedOrders = true)
    (hB : (cs.all (· != x) && (ords.length == (places x cs []).length) && ((places x cs []).zip ords).all fun p => serial3 P l.toArray p.1 n is [] p.2) = true) (hS : ords.map (fun o => o.map (l.toArray[·]?)) = lS.map (fun s => s.map some))
    (hI : KnowsI n is a) (hb : NoBad Q) (h : wpAll P l.toArray Q a w.drew lS) : (Code.region id l.toArray true).wp P Q a w := by
  simp only [Bool.and_eq_true, beq_iff_eq] at hB
  obtain ⟨⟨h1, h2⟩, h3⟩ := hB
  refine wp_places x cs hm h1 ?_
  generalize places x cs [] = ds at h2 h3 ⊢
  induction ds generalizing ords lS with
  | nil => intro d hd; cases hd
  | cons d ds ih =>
    match ords, h2 with
    | o :: ords, h2 =>
      match lS, hS with
      | l1 :: lS, hS =>
        simp only [List.map_cons, List.cons.injEq] at hS
        simp only [List.zip_cons_cons, List.all_cons, Bool.and_eq_true] at h3
        intro d' hd'
        rcases List.mem_cons.1 hd' with rfl | hd'
        · exact serial3_any n is [] o [] l1 h3.1 rfl hS.1 (hI.of_tmps rfl) hb h.1
        · exact ih ords lS hS.2 h.2 (by simpa using h2) h3.2 d' hd'
theorem wp_serial3_0 (n : Nat) (is last : List Nat) {id : Nat} {a : Act} {w : World} {l : List Oper} (lL : List Oper) (hm : P.follows .mixedOrders = true)
    (hB : serial3 P l.toArray [] n is [] last = true) (hL : last.map (l.toArray[·]?) = lL.map some)
    (hI : KnowsI n is a) (hb : NoBad Q) (h : wpList P l.toArray Q lL a w.drew) : (Code.region id l.toArray true).wp P Q a w :=
  wp_serial3 n is [] last [] lL hm hB rfl hL hI hb h
theorem wp_serial3_1 (n : Nat) (is : List Nat) (s1 : List Nat) (k1 : Nat) (last : List Nat) {id : Nat} {a : Act} {w : World} {l : List Oper} (l1 : List Oper) (c1 : Oper) (lL : List Oper) (hm : P.follows .mixedOrders = true)
    (hB : serial3 P l.toArray [] n is [(s1, k1)] last = true) (h1 : s1.map (l.toArray[·]?) = l1.map some) (hc1 : l.toArray[k1]? = some c1) (hL : last.map (l.toArray[·]?) = lL.map some)
    (hI : KnowsI n is a) (hb : NoBad Q) (h : wpList P l.toArray (Exit.then (fun a1 w1 => wpList P l.toArray (Exit.then (fun a2 w2 => Ext w1 w2 ∧ wpList P l.toArray Q lL a2 w2) Q) [c1] a1 w1) Q) l1 a w.drew) : (Code.region id l.toArray true).wp P Q a w :=
  wp_serial3 n is [(s1, k1)] last [(l1, c1)] lL hm hB (by simp only [List.map_cons, List.map_nil, h1, hc1]) hL hI hb h
theorem wp_serial3_2 (n : Nat) (is : List Nat) (s1 : List Nat) (k1 : Nat) (s2 : List Nat) (k2 : Nat) (last : List Nat) {id : Nat} {a : Act} {w : World} {l : List Oper} (l1 : List Oper) (c1 : Oper) (l2 : List Oper) (c2 : Oper) (lL : List Oper) (hm : P.follows .mixedOrders = true)
    (hB : serial3 P l.toArray [] n is [(s1, k1), (s2, k2)] last = true) (h1 : s1.map (l.toArray[·]?) = l1.map some) (hc1 : l.toArray[k1]? = some c1) (h2 : s2.map (l.toArray[·]?) = l2.map some) (hc2 : l.toArray[k2]? = some c2) (hL : last.map (l.toArray[·]?) = lL.map some)
    (hI : KnowsI n is a) (hb : NoBad Q) (h : wpList P l.toArray (Exit.then (fun a1 w1 => wpList P l.toArray (Exit.then (fun a2 w2 => Ext w1 w2 ∧ wpList P l.toArray (Exit.then (fun a1 w1 => wpList P l.toArray (Exit.then (fun a2 w2 => Ext w1 w2 ∧ wpList P l.toArray Q lL a2 w2) Q) [c2] a1 w1) Q) l2 a2 w2) Q) [c1] a1 w1) Q) l1 a w.drew) : (Code.region id l.toArray true).wp P Q a w :=
  wp_serial3 n is [(s1, k1), (s2, k2)] last [(l1, c1), (l2, c2)] lL hm hB (by simp only [List.map_cons, List.map_nil, h1, hc1, h2, hc2]) hL hI hb h
end
end Go.Proofs.Ytijmbpokglohbaa.SL

namespace Go.Proofs.Ytijmbpokglohbaa
set_option linter.unusedSimpArgs false
set_option linter.unusedVariables false
section
variable {P : Program} {Q : Exit → Act → World → Prop}
theorem wp_serialA (n : Nat) (is : List Nat) (x k1 k2 : Nat) (s1 s2 last t1 t2 lastt u1 u2 lastu : List Nat) {id : Nat} {a : Act} {w : World} {l : List Oper} (c1 c2 : Oper) (l1 l2 lL m1 m2 mL r1 r2 rL : List Oper) (hm : P.follows .mixedOrders = true)
    (hB : ((([k1, k2].all (· != x) && serial3 P l.toArray [(k1, x)] n is [(s1, k1), (s2, k2)] last) && serial3 P l.toArray [(x, k1), (k2, x)] n is [(t1, k1), (t2, k2)] lastt) && serial3 P l.toArray [(x, k1), (x, k2)] n is [(u1, k1), (u2, k2)] lastu) = true)
    (hc1 : l.toArray[k1]? = some c1) (hc2 : l.toArray[k2]? = some c2)
    (h1 : s1.map (l.toArray[·]?) = l1.map some) (h2 : s2.map (l.toArray[·]?) = l2.map some) (hL : last.map (l.toArray[·]?) = lL.map some)
    (g1 : t1.map (l.toArray[·]?) = m1.map some) (g2 : t2.map (l.toArray[·]?) = m2.map some) (gL : lastt.map (l.toArray[·]?) = mL.map some)
    (f1 : u1.map (l.toArray[·]?) = r1.map some) (f2 : u2.map (l.toArray[·]?) = r2.map some) (fL : lastu.map (l.toArray[·]?) = rL.map some)
    (hI : KnowsI n is a) (hb : NoBad Q)
    (h : wpList P l.toArray (Exit.then (fun a1 w1 => wpList P l.toArray (Exit.then (fun a2 w2 => Ext w1 w2 ∧ wpList P l.toArray (Exit.then (fun a1 w1 => wpList P l.toArray (Exit.then (fun a2 w2 => Ext w1 w2 ∧ wpList P l.toArray Q lL a2 w2) Q) [c2] a1 w1) Q) l2 a2 w2) Q) [c1] a1 w1) Q) l1 a w.drew) (h' : wpList P l.toArray (Exit.then (fun a1 w1 => wpList P l.toArray (Exit.then (fun a2 w2 => Ext w1 w2 ∧ wpList P l.toArray (Exit.then (fun a1 w1 => wpList P l.toArray (Exit.then (fun a2 w2 => Ext w1 w2 ∧ wpList P l.toArray Q mL a2 w2) Q) [c2] a1 w1) Q) m2 a2 w2) Q) [c1] a1 w1) Q) m1 a w.drew) (h'' : wpList P l.toArray (Exit.then (fun a1 w1 => wpList P l.toArray (Exit.then (fun a2 w2 => Ext w1 w2 ∧ wpList P l.toArray (Exit.then (fun a1 w1 => wpList P l.toArray (Exit.then (fun a2 w2 => Ext w1 w2 ∧ wpList P l.toArray Q rL a2 w2) Q) [c2] a1 w1) Q) r2 a2 w2) Q) [c1] a1 w1) Q) r1 a w.drew) : (Code.region id l.toArray true).wp P Q a w := by
  simp only [Bool.and_eq_true] at hB
  obtain ⟨⟨⟨h0, b1⟩, b2⟩, b3⟩ := hB
  refine wp_places x [k1, k2] hm h0 fun d hd => ?_
  simp only [places, List.nil_append, List.cons_append, List.mem_cons, List.not_mem_nil, or_false] at hd
  rcases hd with rfl | rfl | rfl
  · exact serial3_any n is [(s1, k1), (s2, k2)] last [(l1, c1), (l2, c2)] lL b1 (by simp only [List.map_cons, List.map_nil, h1, h2, hc1, hc2]) hL (hI.of_tmps rfl) hb h
  · exact serial3_any n is [(t1, k1), (t2, k2)] lastt [(m1, c1), (m2, c2)] mL b2 (by simp only [List.map_cons, List.map_nil, g1, g2, hc1, hc2]) gL (hI.of_tmps rfl) hb h'
  · exact serial3_any n is [(u1, k1), (u2, k2)] lastu [(r1, c1), (r2, c2)] rL b3 (by simp only [List.map_cons, List.map_nil, f1, f2, hc1, hc2]) fL (hI.of_tmps rfl) hb h''
end
end Go.Proofs.Ytijmbpokglohbaa

namespace Go.Proofs.Ytijmbpokglohbaa
set_option linter.unusedSimpArgs false
set_option linter.unusedVariables false
section
variable {P : Program} {Q : Exit → Act → World → Prop}
theorem wp_serial6 (n : Nat) (is : List Nat) (x k : Nat) (s1 : List Nat) (last : List Nat) (t1 : List Nat) (lastt : List Nat) {id : Nat} {a : Act} {w : World} {l : List Oper} (l1 : List Oper) (c1 : Oper) (lL m1 mL : List Oper) (hm : P.follows .mixedOrders = true)
    (hB : (([k].all (· != x) && serial3 P l.toArray [(k, x)] n is [(s1, k)] last) && serial3 P l.toArray [(x, k)] n is [(t1, k)] lastt) = true) (h1 : s1.map (l.toArray[·]?) = l1.map some) (hc1 : l.toArray[k]? = some c1) (hL : last.map (l.toArray[·]?) = lL.map some)
    (g1 : t1.map (l.toArray[·]?) = m1.map some) (gL : lastt.map (l.toArray[·]?) = mL.map some)
    (hI : KnowsI n is a) (hb : NoBad Q)
    (h : wpList P l.toArray (Exit.then (fun a1 w1 => wpList P l.toArray (Exit.then (fun a2 w2 => Ext w1 w2 ∧ wpList P l.toArray Q lL a2 w2) Q) [c1] a1 w1) Q) l1 a w.drew)
    (h' : wpList P l.toArray (Exit.then (fun a1 w1 => wpList P l.toArray (Exit.then (fun a2 w2 => Ext w1 w2 ∧ wpList P l.toArray Q mL a2 w2) Q) [c1] a1 w1) Q) m1 a w.drew) : (Code.region id l.toArray true).wp P Q a w := by
  simp only [Bool.and_eq_true] at hB
  obtain ⟨⟨h0, h2⟩, h3⟩ := hB
  refine wp_places x [k] hm h0 fun d hd => ?_
  simp only [places, List.nil_append, List.mem_cons, List.not_mem_nil, or_false] at hd
  rcases hd with rfl | rfl
  · exact serial3_any n is [(s1, k)] last [(l1, c1)] lL h2 (by simp only [List.map_cons, List.map_nil, h1, hc1]) hL (hI.of_tmps rfl) hb h
  · exact serial3_any n is [(t1, k)] lastt [(m1, c1)] mL h3 (by simp only [List.map_cons, List.map_nil, g1, hc1]) gL (hI.of_tmps rfl) hb h'
end
end Go.Proofs.Ytijmbpokglohbaa

namespace Go.Proofs.Ytijmbpokglohbaa
open Go.RowKit
set_option linter.unusedSimpArgs false
set_option linter.unusedVariables false
section
variable {F : Fence} {n : Nat} {P : Program} {Q : Exit → Act → World → Prop} {ops : Array Oper}
def plainOp (P : Program) (o : Op) : Bool := (match o with | .store .. => true | _ => meekOp P o) && (match o with | .call .. => false | _ => true)
def Plain (r : Result Next) : Prop := ∀ x w', r = .ok x w' → (∃ v, x = .value v) ∨ x = .skip
theorem plain_exec {ρ : Operand → Value} {o : Oper} (h : plainOp P o.op = true) (w : World) : Plain ((execOp ρ o).run P w) := by
  intro x w' hx
  simp only [plainOp, Bool.and_eq_true] at h
  cases ho : o.op <;> rw [ho] at h <;> first
    | (simp only [execOp, ho] at hx
       obtain ⟨y, w1, h1, h2⟩ := ok_bind hx
       simp at h2
       exact .inr h2.1.symm)
    | exact .inl (meekEx_op ρ o (by rw [ho]; exact h.1) _ _ _ hx).2
theorem upon_in {o : Oper} {a : Act} {K K' : Act → World → Prop} (hK : ∀ a w, K a w → K' a w) {r : Result Next} (hp : Plain r) (h : o.upon P a K Q r) : o.uponIn F n P a K' Q r := by
  cases r with
  | ok x w' =>
    rcases hp x w' rfl with ⟨v, rfl⟩ | rfl
    · exact hK _ _ h
    · exact hK _ _ h
  | halt x w' => cases x <;> first | exact h | exact h.elim
theorem wpOpsIn_of (hb : NoBad Q) : ∀ (l : List Nat) (a : Act) (w : World), (∀ (i : Nat) (o : Oper), ops[i]? = some o → plainOp P o.op = true) → wpOps P ops Q l a w → wpOpsIn F n P ops Q l a w
  | [], a, w, _, h => h
  | i :: l, a, w, hp, h => by
    simp only [wpOps, wpOpsIn] at h ⊢
    cases ho : ops[i]? with
    | none => rw [ho] at h; exact wpOpsIn_of hb l a w hp h
    | some o =>
      rw [ho] at h
      simp only [] at h ⊢
      have hpo := hp i o ho
      have hc : ∀ c, o.op ≠ .call c := fun c hc => by rw [hc] at hpo; simp [plainOp] at hpo
      have hab : ∀ f, o.about P w a.eval = some f → F.fn f := fun f hf => by
        unfold Oper.about at hf
        cases hoo : o.op <;> rw [hoo] at hf <;> first | exact absurd hoo (hc _) | cases hf
      split
      · rename_i hw
        rw [if_pos hw] at h
        have h := h.resolve_right (fun h => hb.lets h.2)
        refine ⟨hab, ?_⟩
        rw [Oper.semAt_eq _ _ _ (fun c h => by rw [h] at hpo; simp [plainOp, meekOp, pureOp, readOp] at hpo)]
        exact upon_in (fun a w h => wpOpsIn_of hb l a w hp h) (plain_exec hpo w) h
      · rename_i hw
        rw [if_neg hw] at h
        exact ⟨hab, wpOpsIn_of hb l _ w hp h⟩
theorem wpIn_serial3 (m : Nat) (is last : List Nat) {id : Nat} {a : Act} {w : World} {l : List Oper} (lL : List Oper) (hm : P.follows .mixedOrders = true)
    (hB : serial3 P l.toArray [] m is [] last = true) (hL : last.map (l.toArray[·]?) = lL.map some)
    (hI : KnowsI m is a) (hb : NoBad Q) (hp : l.all (fun o => plainOp P o.op) = true) (h : wpList P l.toArray Q lL a w.drew) : (Code.region id l.toArray true).wpIn F n P Q a w := by
  refine wpIn_region_draw fun t => ?_
  simp only [Region.schedule, hm, Bool.true_or, if_true]
  refine wpOpsIn_of hb _ _ _ (fun i o ho => List.all_eq_true.1 hp o (by simpa using List.mem_of_getElem? (by simpa using ho))) ?_
  change wpOps P l.toArray Q (Region.linearise.go .any l.toArray l.toArray.size t (Array.replicate l.toArray.size false) []) a w.drew
  exact wpAnyC_sound _ t _ _ _ (obeys_nil _ _) (serial3_any m is [] last [] lL hB rfl hL (hI.of_tmps rfl) hb h)
theorem wpIn_places (x : Nat) (cs : List Nat) {id : Nat} {a : Act} {w : World} {l : List Oper} (hm : P.follows .mixedOrders = true) (hx : cs.all (· != x) = true) (hb : NoBad Q) (hp : l.all (fun o => plainOp P o.op) = true)
    (h : ∀ d ∈ places x cs [], wpAnyC P .any l.toArray Q d l.toArray.size (Array.replicate l.toArray.size false) a w.drew) : (Code.region id l.toArray true).wpIn F n P Q a w := by
  refine wpIn_region_draw fun t => ?_
  simp only [Region.schedule, hm, Bool.true_or, if_true]
  refine wpOpsIn_of hb _ _ _ (fun i o ho => List.all_eq_true.1 hp o (by simpa using List.mem_of_getElem? (by simpa using ho))) ?_
  change wpOps P l.toArray Q (Region.linearise.go .any l.toArray l.toArray.size t (Array.replicate l.toArray.size false) []) a w.drew
  have hlt := lin_lt (md := .any) (ops := l.toArray) l.toArray.size t (Array.replicate l.toArray.size false) (by simp)
  obtain ⟨d, hd, h2⟩ := places_all x cs [] _ (Array.replicate l.toArray.size false) (fun k hk => by have := List.all_eq_true.1 hx k hk; simp at this; exact Ne.symm this) (fun i hi => by simpa using hlt i hi) (obeys_nil (Region.linearise.go .any l.toArray l.toArray.size t (Array.replicate l.toArray.size false) []) _)
  exact wpAnyC_sound _ t _ _ _ h2 (h d hd)
theorem wpIn_serial4 (m : Nat) (is : List Nat) (x : Nat) (cs : List Nat) (ords : List (List Nat)) {id : Nat} {a : Act} {w : World} {l : List Oper} (lS : List (List Oper)) (hm : P.follows .mixedOrders = true)
    (hB : (cs.all (· != x) && (ords.length == (places x cs []).length) && ((places x cs []).zip ords).all fun p => serial3 P l.toArray p.1 m is [] p.2) = true) (hS : ords.map (fun o => o.map (l.toArray[·]?)) = lS.map (fun s => s.map some))
    (hI : KnowsI m is a) (hb : NoBad Q) (hp : l.all (fun o => plainOp P o.op) = true) (h : wpAll P l.toArray Q a w.drew lS) : (Code.region id l.toArray true).wpIn F n P Q a w := by
  simp only [Bool.and_eq_true, beq_iff_eq] at hB
  obtain ⟨⟨h1, h2⟩, h3⟩ := hB
  refine wpIn_places x cs hm h1 hb hp ?_
  generalize places x cs [] = ds at h2 h3 ⊢
  induction ds generalizing ords lS with
  | nil => intro d hd; cases hd
  | cons d ds ih =>
    match ords, h2 with
    | o :: ords, h2 =>
      match lS, hS with
      | l1 :: lS, hS =>
        simp only [List.map_cons, List.cons.injEq] at hS
        simp only [List.zip_cons_cons, List.all_cons, Bool.and_eq_true] at h3
        intro d' hd'
        rcases List.mem_cons.1 hd' with rfl | hd'
        · exact serial3_any m is [] o [] l1 h3.1 rfl hS.1 (hI.of_tmps rfl) hb h.1
        · exact ih ords lS hS.2 h.2 (by simpa using h2) h3.2 d' hd'
theorem NoBad.cell {α : Type} {cb d : Nat} {I : List α → World → Prop} {Ix : Code → List α → World → Prop} {xs : List α} {W : World} : NoBad (cellPost cb d I Ix xs W) := ⟨fun _ _ _ h => h, fun _ _ h => h⟩
end
end Go.Proofs.Ytijmbpokglohbaa

namespace Go.Proofs.Ytijmbpokglohbaa.S8
set_option linter.unusedSimpArgs false
set_option linter.unusedVariables false

section
variable {P : Program} {md : Region.Mode} {ops : Array Oper} {Q : Exit → Act → World → Prop}
def Keep (F : Nat → Bool) (i : Nat) (w w' : World) : Prop := F i = true → Ext w w'
theorem Keep.refl {F : Nat → Bool} {i : Nat} (w : World) : Keep F i w w := fun _ => Ext.refl w
def wpAnyF (P : Program) (md : Region.Mode) (ops : Array Oper) (Q : Exit → Act → World → Prop) (F : Nat → Bool) (cc : List (Nat × Nat)) : Nat → Array Bool → Act → World → Prop
  | 0, listed, a, w => Region.ready md ops listed = [] ∧ Q .normal a w
  | fuel + 1, listed, a, w =>
    (Region.ready md ops listed = [] → Q .normal a w) ∧
    ∀ i ∈ Region.ready md ops listed, mayC cc listed i = true → wpOp P ops Q i (fun a' w' => Keep F i w w' ∧ wpAnyF P md ops Q F cc fuel (listed.setIfInBounds i true) a' w') a w
variable {cc : List (Nat × Nat)}
theorem wpAnyF.any {F : Nat → Bool} : ∀ (fuel : Nat) (listed : Array Bool) (a : Act) (w : World), wpAnyF P md ops Q F cc fuel listed a w → wpAnyC P md ops Q cc fuel listed a w
  | 0, _, _, _, h => h
  | fuel + 1, listed, a, w, h => ⟨h.1, fun i hi hm => wpOp_mono (fun a' w' k => wpAnyF.any fuel _ a' w' k.2) (h.2 i hi hm)⟩
/-- an operation beside a reading, whose end tells that the reading still stands -/
theorem wpOp_putK (hb : NoBad Q) {C : World → Prop} {j : Nat} {oi oj : Oper} {v : Value} (hj : ops[j]? = some oj) (hap : oi.apart ops oj = true)
    (hsi : ∀ cs b, oi.op ≠ .select cs b) (hsj : ∀ cs b, oj.op ≠ .select cs b) {K : Act → World → Prop} {a : Act} {w : World} (hCw : C w)
    (hm : ∀ a' w', K a' w' → C w')
    (hy : YieldsC P ops C oi v a) (h : wpOp P ops Q j K (a.put oi.dst v) w) :
    wpOp P ops Q j (fun a' w' => C w' ∧ YieldsC P ops C oi v a' ∧ K (a'.put oi.dst v) w') a w := by
  obtain ⟨h1, h2, h3⟩ := Oper.apart_spec hap
  have keep : ∀ (a : Act), YieldsC P ops C oi v a → ∀ u, YieldsC P ops C oi v (a.put oj.dst u) := fun a hy u =>
    hy.of_same (execOp_put oi hsi a oj.dst u h3) (wanted_put oi a oj.dst u h3)
  have keepD : ∀ d, YieldsC P ops C oi v { a with defers := d :: a.defers } := fun d => hy.of_same rfl rfl
  unfold Go.wpOp at *
  simp only [hj] at *
  rw [wanted_put oj a oi.dst v h1] at h
  split at h
  · rename_i hw
    rw [if_pos hw]
    rcases h with h | ⟨_, h⟩
    case inr => exact absurd h hb.lets
    refine .inl ?_
    unfold Oper.wp at *
    rw [execOp_put oj hsj a oi.dst v h1] at h
    cases hrun : (execOp a.eval oj).run P w with
    | ok n w' =>
      rw [hrun] at h
      cases n <;> simp only [Oper.upon] at h ⊢
      case value u => exact ⟨hm _ _ h, keep a hy u, by rw [← Act.put_comm a v u h2]; exact h⟩
      case skip => exact ⟨hm _ _ h, keep a hy _, by rw [← Act.put_comm a v undef h2]; exact h⟩
      case defer d =>
        refine ⟨hm _ _ h, keep _ (keepD d) _, ?_⟩
        rw [← Act.put_comm _ v undef h2, ← Act.put_defers]
        exact h
      case enter f args =>
        refine Calls.mono h fun e w'' he => ?_
        cases e with
        | returned u => exact ⟨hm _ _ he, keep a hy u, by rw [← Act.put_comm a v u h2]; exact he⟩
        | panicked c => exact absurd he (hb.pan _ _ _)
        | outgrown => exact he
      case row row args => exact Rows.mono h fun u w'' he => ⟨hm _ _ he, keep a hy u, by rw [← Act.put_comm a v u h2]; exact he⟩
    | halt x w' =>
      rw [hrun] at h
      cases x <;> simp only [Oper.upon] at h ⊢
      exact absurd h (hb.pan _ _ _)
  · rename_i hw
    rw [if_neg hw]
    exact ⟨hCw, keep a hy _, by rw [← Act.put_comm a v undef h2]; exact h⟩
/-- what can't come as long as i has not: it waits for i, or for what does, by the region's rules or by those of cc -/
def WaitsC (md : Region.Mode) (ops : Array Oper) (c : List (Nat × Nat)) (i : Nat) (d : Nat → Bool) : Prop :=
  ∀ j oj, ops[j]? = some oj → d j = true → (∃ e ∈ oj.after, Region.binds md e = true ∧ (e.on = i ∨ d e.on = true)) ∨ held c i j = true
theorem not_waitsC {i : Nat} {d : Nat → Bool} (hd : WaitsC md ops cc i d) {listed : Array Bool} (hu : listed.getD i true = false) (hinv : ∀ j, d j = true → listed.getD j false = false) {j : Nat}
    (hj : j ∈ Region.ready md ops listed) (hm : mayC cc listed j = true) : d j = false := by
  cases hdj : d j with
  | false => rfl
  | true =>
    obtain ⟨_, oj, hoj, hall⟩ := mem_ready.1 hj
    rcases hd j oj hoj hdj with ⟨e, he, hb, h⟩ | h
    · have h1 := hall e he hb
      rcases h with h | h
      · rw [h] at h1
        rcases Nat.lt_or_ge i listed.size with h' | h'
        · simp [h'] at hu h1; rw [hu] at h1; cases h1
        · simp [Array.getElem?_eq_none h'] at h1
      · rw [hinv _ h] at h1; cases h1
    · rw [held_no hu hm] at h; cases h
variable {F : Nat → Bool}
theorem wpAnyF_rd (hb : NoBad Q) {C : World → Prop} (hC : ∀ u u', C u → Ext u u' → C u') {i : Nat} {oi : Oper} {v : Value} {d : Nat → Bool} (hi : ops[i]? = some oi)
    (hsel : ∀ (j : Nat) (o : Oper) cs b, ops[j]? = some o → o.op ≠ .select cs b) (hd : WaitsC md ops cc i d) :
    ∀ (fuel : Nat) (listed : Array Bool) (a : Act) (w : World), (∀ j, d j = true → listed.getD j false = false) → (∀ j, listed.getD j true = false → j ≠ i → d j = false → held cc i j = false → ∀ oj, ops[j]? = some oj → oi.apart ops oj = true ∧ (((∀ u, C u) ∨ ∀ ρ, MeekEx P (execOp ρ oj)) ∨ F j = true)) →
      i ∈ Region.ready md ops listed → mayC cc listed i = true → C w → YieldsC P ops C oi v a →
      wpAnyF P md ops Q F cc fuel (listed.setIfInBounds i true) (a.put oi.dst v) w → wpAnyF P md ops Q F cc (fuel + 1) listed a w := by
  intro fuel
  induction fuel with
  | zero =>
    intro listed a w _ _ hr hmi hCw hy H
    refine ⟨fun h => (by rw [h] at hr; cases hr), fun j hj hcj => ?_⟩
    by_cases hji : j = i
    · subst hji; exact hy.wpOp hi hCw ⟨Keep.refl w, H⟩
    · have := ready_mono hj hji
      rw [H.1] at this
      cases this
  | succ fuel ih =>
    intro listed a w hinv hf hr hmi hCw hy H
    refine ⟨fun h => (by rw [h] at hr; cases hr), fun j hj hcj => ?_⟩
    by_cases hji : j = i
    · subst hji; exact hy.wpOp hi hCw ⟨Keep.refl w, H⟩
    · have h1 := H.2 j (ready_mono hj hji) (mayC_mono _ hcj)
      obtain ⟨hjun, oj, hoj, hall⟩ := mem_ready.1 hj
      have hdj := not_waitsC hd (mem_ready.1 hr).1 hinv hj hcj
      obtain ⟨hap, hm⟩ := hf j hjun hji hdj (held_no (mem_ready.1 hr).1 hcj) oj hoj
      have h2 : wpOp P ops Q j (fun a' w' => C w' ∧ YieldsC P ops C oi v a' ∧ (Keep F j w w' ∧ wpAnyF P md ops Q F cc fuel ((listed.setIfInBounds i true).setIfInBounds j true) (a'.put oi.dst v) w')) a w := by
        rcases hm with hm | hm
        · exact wpOp_putC hb hC hoj hap (fun cs b => hsel i oi cs b hi) (fun cs b => hsel j oj cs b hoj) hCw (orMap hm id fun h => h _) hy h1
        · exact wpOp_putK hb hoj hap (fun cs b => hsel i oi cs b hi) (fun cs b => hsel j oj cs b hoj) hCw (fun a' w' hk => hC _ _ hCw (hk.1 hm)) hy h1
      refine wpOp_mono (fun a' w' h3 => ⟨h3.2.2.1, ih (listed.setIfInBounds j true) a' w' (inv_set hinv hdj) (fun k hk hki hdk hhk ok hok => ?_) (ready_mono hr (Ne.symm hji)) (mayC_mono _ hmi) h3.1 h3.2.1 ?_⟩) h2
      · by_cases hjk : j = k
        · subst hjk; exact hf j hjun hki hdk hhk ok hok
        · rw [getD_set_ne true hjk] at hk; exact hf k hk hki hdk hhk ok hok
      · rw [Array.setIfInBounds_comm _ _ hji]
        exact h3.2.2.2
theorem wpAnyF_eff (hb : NoBad Q) {i : Nat} {oi : Oper} {d : Nat → Bool} (hi : ops[i]? = some oi)
    (hsel : ∀ (j : Nat) (o : Oper) cs b, ops[j]? = some o → o.op ≠ .select cs b) (hd : WaitsC md ops cc i d) :
    ∀ (fuel : Nat) (listed : Array Bool) (a : Act) (w : World), (∀ j, d j = true → listed.getD j false = false) → (∀ j, listed.getD j true = false → j ≠ i → d j = false → held cc i j = false → ∀ oj, ops[j]? = some oj → oi.apart ops oj = true ∧ ∀ ρ, PureEx P (execOp ρ oj)) →
      i ∈ Region.ready md ops listed → mayC cc listed i = true →
      wpOp P ops Q i (fun a' w' => Keep F i w w' ∧ wpAnyF P md ops Q F cc fuel (listed.setIfInBounds i true) a' w') a w → wpAnyF P md ops Q F cc (fuel + 1) listed a w := by
  intro fuel
  induction fuel with
  | zero =>
    intro listed a w _ _ hr hmi H
    refine ⟨fun h => (by rw [h] at hr; cases hr), fun j hj hcj => ?_⟩
    by_cases hji : j = i
    · subst hji; exact H
    · obtain ⟨a1, w1, h1⟩ := wpOp_some hb hi H
      have := ready_mono hj hji
      rw [h1.2.1] at this
      cases this
  | succ fuel ih =>
    intro listed a w hinv hf hr hmi H
    refine ⟨fun h => (by rw [h] at hr; cases hr), fun j hj hcj => ?_⟩
    by_cases hji : j = i
    · subst hji; exact H
    · obtain ⟨hjun, oj, hoj, hall⟩ := mem_ready.1 hj
      have hdj := not_waitsC hd (mem_ready.1 hr).1 hinv hj hcj
      obtain ⟨hap, hpu⟩ := hf j hjun hji hdj (held_no (mem_ready.1 hr).1 hcj) oj hoj
      obtain ⟨p1, p2, p3⟩ := Oper.apart_spec hap
      have H' := wpOp_tmps hb hi H
      have hsame : ∀ a1 : Act, (∃ v, a1.tmps = (a.put oi.dst v).tmps) → execOp a1.eval oj = execOp a.eval oj ∧ Region.wanted oj (yielded ops a1.tmps) = Region.wanted oj (yielded ops a.tmps) := by
        rintro a1 ⟨v, hv⟩
        have he : a1.eval = (a.put oi.dst v).eval := by funext x; cases x <;> simp only [Act.eval, hv]
        rw [he, hv]
        exact ⟨execOp_put oj (fun cs b => hsel j oj cs b hoj) a oi.dst v p1, wanted_put oj a oi.dst v p1⟩
      obtain ⟨a1, w1, h1, ht⟩ := wpOp_some hb hi H'
      obtain ⟨u, hy1, _⟩ := wpOp_pure hb hoj (hpu _) (h1.2.2 j (ready_mono hj hji) (mayC_mono _ hcj))
      have hy : YieldsC P ops (fun _ => True) oj u a := hy1.of_same (hsame a1 ht).1.symm (hsame a1 ht).2.symm
      refine hy.wpOp hoj trivial ⟨Keep.refl w, ?_⟩
      refine ih (listed.setIfInBounds j true) (a.put oj.dst u) w (inv_set hinv hdj) (fun k hk hki hdk hhk ok hok => ?_) (ready_mono hr (Ne.symm hji)) (mayC_mono _ hmi) ?_
      · by_cases hjk : j = k
        · subst hjk; exact hf j hjun hki hdk hhk ok hok
        · rw [getD_set_ne true hjk] at hk; exact hf k hk hki hdk hhk ok hok
      · refine wpOp_back hb hi hap (fun cs b => hsel i oi cs b hi) (wpOp_mono (fun a2 w2 ⟨h2, ht2⟩ => ?_) H')
        obtain ⟨u', hy2, h3⟩ := wpOp_pure hb hoj (hpu _) (h2.2.2 j (ready_mono hj hji) (mayC_mono _ hcj))
        have hy2' : YieldsC P ops (fun _ => True) oj u' a := hy2.of_same (hsame a2 ht2).1.symm (hsame a2 ht2).2.symm
        have huu : u' = u := by
          rcases hy with ⟨hw, hv⟩ | ⟨hw, rfl⟩ <;> rcases hy2' with ⟨hw', hv'⟩ | ⟨hw', rfl⟩
          · have := (hv w trivial).symm.trans (hv' w trivial); simp only [Result.ok.injEq, Next.value.injEq, and_true] at this; exact this.symm
          · rw [hw] at hw'; cases hw'
          · rw [hw] at hw'; cases hw'
          · rfl
        rw [huu, Array.setIfInBounds_comm _ _ (Ne.symm hji)] at h3
        exact ⟨h2.1, h3.2⟩

theorem getD_put_ne {α : Type} (xs : Array α) (i j : Nat) (x d : α) (h : i ≠ j) : (xs.setIfInBounds i x).getD j d = xs.getD j d := by
  simp [Array.getD_eq_getD_getElem?, Array.getElem?_setIfInBounds, h]
/-! ### whole numbers -/
def isI : Value → Bool
  | .int _ _ => true
  | _ => false
def opI (is : List Nat) : Operand → Bool
  | .tmp t => is.contains t
  | .const v => isI v
  | _ => false
def intT (P : Program) (t : TypeId) : Bool := match P.underlying t with
  | some (.int _) => true
  | _ => false
def strT (P : Program) (t : TypeId) : Bool := match P.underlying t with
  | some .string => true
  | _ => false
def bitB : BinOp → Bool
  | .or | .shl => true
  | _ => false
def eqB : BinOp → Bool
  | .eql | .neq => true
  | _ => false
def mulB : BinOp → Bool
  | .mul => true
  | _ => false
def constI : Operand → Bool
  | .const (.int _ _) => true
  | _ => false
def intOp (P : Program) (is : List Nat) : Op → Bool
  | .binOp bo _ x y _ => (opI is x && opI is y) || bitB bo || (eqB bo && constI y) || (mulB bo && constI x)
  | .convert s d x => intT P s && intT P d && opI is x
  | _ => false
def givesI (P : Program) (is : List Nat) : Op → Bool
  | .convert s d x => intT P s && intT P d && opI is x
  | .index t _ _ => strT P t
  | .move x | .assign x => opI is x
  | .binOp bo _ x y _ => opI is x && opI is y && (match bo with | .add | .sub | .mul | .quo | .rem | .and | .or | .xor | .andNot | .shl | .shr => true | _ => false) || (mulB bo && constI x)
  | _ => false
def nextI (P : Program) (n : Nat) (is : List Nat) (o : Oper) : List Nat := match o.dst with
  | none => is
  | some d => if o.guard.isNone && decide (d < n) && givesI P is o.op then d :: is else is.filter (· != d)
abbrev KnowsI (n : Nat) (is : List Nat) (a : Act) : Prop := n ≤ a.tmps.size ∧ ∀ s ∈ is, isI (a.eval (.tmp s)) = true
theorem KnowsI.op {n : Nat} {is : List Nat} {a : Act} (h : KnowsI n is a) {x : Operand} (hx : opI is x = true) : ∃ k z, a.eval x = .int k z := by
  have : isI (a.eval x) = true := by
    cases x with
    | tmp t => exact h.2 t (by simpa [opI] using hx)
    | const v => exact hx
    | _ => cases hx
  cases hv : a.eval x <;> rw [hv] at this <;> first | cases this | skip
  exact ⟨_, _, rfl⟩
theorem calm_eqGuardI (o : BinOp) (t : TypeId) (x y : Operand) (k l : IntKind) (m n : Int) : Calm P (eqGuard o t x y (.int k m) (.int l n)) := by
  unfold eqGuard
  split <;> exact calm_pure _
theorem calm_binI (bo : BinOp) (t : TypeId) (k l : IntKind) (m n : Int) : Calm P (binOp bo t (.int k m) (.int l n)) := by
  have h0 : Calm P (if k ≠ l then stuck "BinOp: operands of different kinds" else
    match bo with
    | .add | .sub | .mul => Op.intArith bo k m n
    | .quo | .rem => Op.intDiv bo k m n
    | .and | .or | .xor | .andNot => Op.intBits bo k m n
    | _ => Op.intCmp bo m n) := by
    split
    · exact (dies_stuck _).calm
    · split <;> first | exact calm_intArith _ _ _ _ | exact calm_intDiv _ _ _ _ | exact calm_intBits _ _ _ _ | exact calm_intCmp _ _ _
  cases bo <;> first | exact h0 | (unfold binOp; exact calm_shift _ _ _ _ _)
def GivesI0 (P : Program) (s : Sem Value) : Prop := ∀ w w' v, s.run P w = .ok v w' → isI v = true
theorem calm_or (t : TypeId) (a b : Value) : Calm P (binOp .or t a b) := by
  unfold binOp
  split
  all_goals first
    | exact calm_shift _ _ _ _ _
    | (split; exact (dies_stuck _).calm; first | exact calm_intBits _ _ _ _ | exact calm_floatCmp _ _ _ _ | (unfold Op.complexOp; exact (dies_stuck _).calm))
    | exact calm_stringOp _ _ _
    | exact (dies_unsupported _).calm
    | exact (dies_stuck _).calm
    | contradiction
theorem calm_shl (t : TypeId) (a b : Value) : Calm P (binOp .shl t a b) := by
  unfold binOp
  split
  all_goals first
    | exact calm_shift _ _ _ _ _
    | (split; exact (dies_stuck _).calm; first | exact calm_intCmp _ _ _ | exact calm_floatCmp _ _ _ _ | (unfold Op.complexOp; exact (dies_stuck _).calm))
    | exact calm_stringOp _ _ _
    | exact (dies_unsupported _).calm
    | exact (dies_stuck _).calm
    | contradiction
theorem calm_eqi (t : TypeId) (a : Value) (k : IntKind) (n : Int) : Calm P (Op.equal t a (.int k n)) := by
  unfold Op.equal Op.maxDepth
  rw [Op.equalIn]
  refine calm_bind (calm_underlying _) fun d => ?_
  split
  all_goals first
    | exact calm_pure _
    | (split; exact calm_pure _; exact (dies_stuck _).calm)
    | exact (dies_unsupported _).calm
    | exact (dies_stuck _).calm
    | contradiction
theorem calm_neqi (bo : BinOp) (hbo : bo = .eql ∨ bo = .neq) (t : TypeId) (a : Value) (k : IntKind) (n : Int) : Calm P (binOp bo t a (.int k n)) := by
  rcases hbo with rfl | rfl
  all_goals
    unfold binOp
    split
    all_goals first
      | exact calm_shift _ _ _ _ _
      | (split; exact (dies_stuck _).calm; first | exact calm_intCmp _ _ _ | exact calm_floatCmp _ _ _ _ | (unfold Op.complexOp; exact (dies_stuck _).calm))
      | exact calm_bind (calm_eqi _ _ _ _) fun _ => calm_pure _
      | exact calm_stringOp _ _ _
      | exact (dies_unsupported _).calm
      | exact (dies_stuck _).calm
      | contradiction
theorem calm_mul (t : TypeId) (b : Value) (k : IntKind) (n : Int) : Calm P (binOp .mul t (.int k n) b) ∧ GivesI0 P (binOp .mul t (.int k n) b) := by
  cases b
  case int k' m =>
    have e : binOp .mul t (.int k n) (.int k' m) = (if k ≠ k' then stuck "BinOp: operands of different kinds" else Op.intArith .mul k n m) := rfl
    rw [e]
    split
    · exact ⟨(dies_stuck _).calm, fun w w' v h => absurd h (dies_stuck _ _ _ _)⟩
    · refine ⟨calm_intArith _ _ _ _, fun w w' v h => ?_⟩
      unfold Op.intArith at h
      simp only [] at h
      first | (simp only [Sem.run_pure, Result.ok.injEq] at h; obtain ⟨rfl, _⟩ := h; rfl) | (split at h <;> first | (simp only [Sem.run_pure, Result.ok.injEq] at h; obtain ⟨rfl, _⟩ := h; rfl) | exact absurd h (dies_stuck _ _ _ _))
  case pointer a => exact ⟨(dies_unsupported _).calm, fun w w' v h => absurd h (dies_unsupported _ _ _ _)⟩
  all_goals exact ⟨(dies_stuck _).calm, fun w w' v h => absurd h (dies_stuck _ _ _ _)⟩
theorem calm_guardi (bo : BinOp) (t : TypeId) (x y : Operand) (a : Value) (k : IntKind) (n : Int) : Calm P (eqGuard bo t x y a (.int k n)) := by
  unfold eqGuard
  cases bo <;> cases a <;> exact calm_pure _
theorem constI_int {y : Operand} (h : constI y = true) : ∃ k n, y = .const (.int k n) := by
  unfold constI at h
  split at h
  · exact ⟨_, _, rfl⟩
  · cases h
theorem run_conv_int {s d : TypeId} (hs : intT P s = true) (hd : intT P d = true) (k : IntKind) (m : Int) : ∃ k', ∀ w, (convert s d (.int k m)).run P w = .ok (.int k' (k'.wrap m)) w := by
  unfold intT at hs hd
  split at hs
  · rename_i ks es
    split at hd
    · rename_i kd ed
      refine ⟨kd, fun w => ?_⟩
      unfold convert
      simp only [Sem.run_bind, run_underlying es, run_underlying ed, Result.andThen_ok, Conv.intToInt, Sem.run_pure]
    · cases hd
  · cases hs
theorem str_index {t : TypeId} (ht : strT P t = true) (x i : Value) {w w' : World} {v : Value} (h : (Instr.index t x i).run P w = .ok v w') : isI v = true := by
  unfold strT at ht
  split at ht
  · rename_i et
    unfold Instr.index at h
    obtain ⟨y, w1, h1, h2⟩ := ok_bind h
    obtain ⟨u, w2, h3, h4⟩ := ok_bind h2
    rw [run_underlying et] at h3
    injection h3 with h5 h6
    subst h5
    cases x with
    | string s =>
      simp only at h4
      split at h4
      · simp only [Sem.run_pure, Result.ok.injEq] at h4
        obtain ⟨rfl, _⟩ := h4; rfl
      · exact absurd h4 (dies_boundsPanic _ _ _ _ _ _ _)
    | _ => exact absurd h4 (dies_stuck _ _ _ _)
  · cases ht
theorem pureEx_int {n : Nat} {is : List Nat} {a : Act} (h : KnowsI n is a) (o : Oper) (ho : intOp P is o.op = true) : PureEx P (execOp a.eval o) := by
  obtain ⟨dst, op, type, pos, after, guard⟩ := o
  cases op <;> simp only [intOp] at ho <;> try (cases ho; done)
  case convert src dst x =>
    simp only [Bool.and_eq_true] at ho
    obtain ⟨k, m, hx⟩ := h.op ho.2
    obtain ⟨k', hr⟩ := run_conv_int (P := P) ho.1.1 ho.1.2 k m
    refine pureEx_of (s := convert src dst (a.eval x)) ?_
    rw [hx]
    intro w w' v hv
    rw [hr] at hv
    injection hv with h1 h2
    subst h1
    subst h2
    exact ⟨rfl, fun u => hr u⟩
  rename_i bo t x y yt
  simp only [Bool.or_eq_true, Bool.and_eq_true] at ho
  rcases ho with ((ho | ho) | ho) | ho
  rotate_left
  · refine pureEx_of (s := do eqGuard bo t x y (a.eval x) (a.eval y); binOp bo t (a.eval x) (a.eval y)) ?_
    cases bo <;> simp only [bitB] at ho <;> try (cases ho; done)
    · exact calm_bind (calm_eqGuard _ _ _ _ _ _ (by decide) (by decide)) fun _ => calm_or _ _ _
    · exact calm_bind (calm_eqGuard _ _ _ _ _ _ (by decide) (by decide)) fun _ => calm_shl _ _ _
  · refine pureEx_of (s := do eqGuard bo t x y (a.eval x) (a.eval y); binOp bo t (a.eval x) (a.eval y)) ?_
    obtain ⟨k, n', rfl⟩ := constI_int ho.2
    have hbo : bo = .eql ∨ bo = .neq := by
      cases bo <;> first | exact .inl rfl | exact .inr rfl | exact absurd ho.1 (by decide)
    exact calm_bind (calm_guardi _ _ _ _ _ _ _) fun _ => calm_neqi _ hbo _ _ _ _
  · refine pureEx_of (s := do eqGuard bo t x y (a.eval x) (a.eval y); binOp bo t (a.eval x) (a.eval y)) ?_
    obtain ⟨k, n', rfl⟩ := constI_int ho.2
    obtain rfl : bo = .mul := by cases bo <;> first | rfl | exact absurd ho.1 (by decide)
    exact calm_bind (calm_eqGuard _ _ _ _ _ _ (by decide) (by decide)) fun _ => (calm_mul _ _ _ _).1
  obtain ⟨k, m, hx⟩ := h.op ho.1
  obtain ⟨l, n', hy⟩ := h.op ho.2
  refine pureEx_of (s := do eqGuard bo t x y (a.eval x) (a.eval y); binOp bo t (a.eval x) (a.eval y)) ?_
  rw [hx, hy]
  exact calm_bind (calm_eqGuardI _ _ _ _ _ _ _ _) fun _ => calm_binI _ _ _ _ _ _
/-- what an operation gives -/
def GivesI (P : Program) (s : Sem Value) : Prop := ∀ w w' v, s.run P w = .ok v w' → isI v = true
theorem givesI_pure (k : IntKind) (z : Int) : GivesI P (pure (.int k z)) := fun w w' v h => by
  simp only [Sem.run_pure, Result.ok.injEq] at h; obtain ⟨rfl, _⟩ := h; rfl
theorem givesI_dies {s : Sem Value} (h : Dies P s) : GivesI P s := fun w w' v hv => absurd hv (h _ _ _)
theorem givesI_bin (bo : BinOp) (hbo : (match bo with | .add | .sub | .mul | .quo | .rem | .and | .or | .xor | .andNot | .shl | .shr => true | _ => false) = true) (t : TypeId) (k l : IntKind) (m n : Int) : GivesI P (binOp bo t (.int k m) (.int l n)) := by
  have hS : GivesI P (Op.shift bo k m l n) := by
    unfold Op.shift
    split
    · exact givesI_dies (dies_runtimePanic _)
    · dsimp only
      split <;> first | exact givesI_pure _ _ | exact givesI_dies (dies_stuck _)
  have h0 : (match bo with | .add | .sub | .mul | .quo | .rem | .and | .or | .xor | .andNot => true | _ => false) = true → GivesI P (if k ≠ l then stuck "BinOp: operands of different kinds" else
    match bo with
    | .add | .sub | .mul => Op.intArith bo k m n
    | .quo | .rem => Op.intDiv bo k m n
    | .and | .or | .xor | .andNot => Op.intBits bo k m n
    | _ => Op.intCmp bo m n) := by
    intro hb
    split
    · exact givesI_dies (dies_stuck _)
    · cases bo <;> first
        | (cases hb; done)
        | exact givesI_pure _ _
        | (simp only [Op.intDiv]; split <;> first | exact givesI_dies (dies_runtimePanic _) | exact givesI_pure _ _)
  cases bo <;> first | (cases hbo; done) | exact h0 rfl | (unfold binOp; exact hS)
theorem givesI_spec {n : Nat} {is : List Nat} {a : Act} (h : KnowsI n is a) (o : Oper) (ho : givesI P is o.op = true) {w w' : World} {v : Value} (hr : (execOp a.eval o).run P w = .ok (.value v) w') : isI v = true := by
  obtain ⟨dst, op, type, pos, after, guard⟩ := o
  have key : ∀ {s : Sem Value}, GivesI P s → (do pure (Next.value (← s)) : Sem Next).run P w = .ok (.value v) w' → isI v = true := by
    intro s hs hr
    obtain ⟨y, w1, h1, h2⟩ := ok_bind hr
    simp only [Sem.run_pure, Result.ok.injEq, Next.value.injEq] at h2
    obtain ⟨rfl, rfl⟩ := h2
    exact hs _ _ _ h1
  cases op <;> simp only [givesI] at ho <;> try (cases ho; done)
  case move x =>
    obtain ⟨k, z, hx⟩ := h.op ho
    exact key (s := pure (a.eval x)) (by rw [hx]; exact givesI_pure _ _) hr
  case assign x =>
    obtain ⟨k, z, hx⟩ := h.op ho
    exact key (s := pure (a.eval x)) (by rw [hx]; exact givesI_pure _ _) hr
  case convert src dst x =>
    simp only [Bool.and_eq_true] at ho
    obtain ⟨k, m, hx⟩ := h.op ho.2
    obtain ⟨k', hr'⟩ := run_conv_int (P := P) ho.1.1 ho.1.2 k m
    refine key (s := convert src dst (a.eval x)) ?_ hr
    rw [hx]
    intro w w' v hv
    rw [hr'] at hv
    injection hv with h1 h2
    subst h1; rfl
  case index t x i =>
    exact key (s := Instr.index t (a.eval x) (a.eval i)) (fun w w' v hv => str_index ho _ _ hv) hr
  case binOp bo t x y yt =>
    simp only [Bool.or_eq_true, Bool.and_eq_true] at ho
    rcases ho with ho | ho
    rotate_left
    · obtain ⟨k, n', rfl⟩ := constI_int ho.2
      obtain rfl : bo = .mul := by cases bo <;> first | rfl | exact absurd ho.1 (by decide)
      refine key (s := do eqGuard .mul t (Operand.const (.int k n')) y (a.eval (Operand.const (.int k n'))) (a.eval y); binOp .mul t (a.eval (Operand.const (.int k n'))) (a.eval y)) ?_ hr
      intro w w' v hv
      obtain ⟨y, w1, h1, h2⟩ := ok_bind hv
      exact (calm_mul _ _ _ _).2 _ _ _ h2
    obtain ⟨k, m, hx⟩ := h.op ho.1.1
    obtain ⟨l, n', hy⟩ := h.op ho.1.2
    refine key (s := do eqGuard bo t x y (a.eval x) (a.eval y); binOp bo t (a.eval x) (a.eval y)) ?_ hr
    rw [hx, hy]
    intro w w' v hv
    obtain ⟨y, w1, h1, h2⟩ := ok_bind hv
    exact givesI_bin bo ho.2 _ _ _ _ _ _ _ _ h2
theorem KnowsI.put {n : Nat} {is : List Nat} {a : Act} (h : KnowsI n is a) (o : Oper) (v : Value) (hv : o.guard.isNone = true → givesI P is o.op = true → isI v = true) : KnowsI n (nextI P n is o) (a.put o.dst v) := by
  unfold nextI
  cases hd : o.dst with
  | none => exact h
  | some d =>
    refine ⟨by simpa [Act.put] using h.1, fun s hs => ?_⟩
    dsimp only at hs
    have hne : s ≠ d → (a.put (some d) v).eval (.tmp s) = a.eval (.tmp s) := fun hsd => by
      simp only [Act.eval, Act.put]; exact getD_put_ne _ _ _ _ _ (Ne.symm hsd)
    split at hs
    · rename_i hc
      simp only [Bool.and_eq_true, decide_eq_true_eq] at hc
      by_cases hsd : s = d
      · subst hsd
        have : (a.put (some s) v).eval (.tmp s) = v := by
          have := h.1
          have hlt : s < a.tmps.size := Nat.lt_of_lt_of_le hc.1.2 h.1
          simp [Act.eval, Act.put, hlt]
        rw [this]; exact hv hc.1.1 hc.2
      · rw [hne hsd]; exact h.2 s (by simpa [hsd] using hs)
    · simp only [List.mem_filter, bne_iff_ne] at hs
      rw [hne hs.2]; exact h.2 s hs.1
theorem KnowsI.of_tmps {n : Nat} {is : List Nat} {a b : Act} (h : KnowsI n is a) (e : b.tmps = a.tmps) : KnowsI n is b :=
  ⟨by rw [e]; exact h.1, fun s hs => by have := h.2 s hs; simp only [Act.eval, e] at this ⊢; exact this⟩
def leftI (is : List Nat) (o : Oper) : List Nat := match o.dst with
  | none => is
  | some d => is.filter (· != d)

/-! ### the Bool -/
def pureI (P : Program) (is : List Nat) (op : Op) : Bool := pureOp P op || intOp P is op
def besideF (P : Program) (ops : Array Oper) (marks : List Nat) (is : List Nat) (oi oj : Oper) (j : Nat) : Bool :=
  oi.apart ops oj && (pureI P is oi.op || pureOp P oj.op || (readOp P oi.op && (meekOp P oj.op || marks.contains j)))
def waitsForC (md : Region.Mode) (ops : Array Oper) (c : List (Nat × Nat)) (i : Nat) : List Bool :=
  ops.toList.foldl (fun acc o => acc ++ [held c i acc.length || o.after.toList.any fun e => Region.binds md e && (e.on == i || acc.getD e.on false)]) []
def waitsOkC (md : Region.Mode) (ops : Array Oper) (c : List (Nat × Nat)) (i : Nat) (d : List Bool) : Bool :=
  (List.range ops.size).all fun j => !d.getD j false || held c i j || match ops[j]? with
    | some o => o.after.toList.any fun e => Region.binds md e && (e.on == i || d.getD e.on false)
    | none => true
theorem waitsOkC_spec {c : List (Nat × Nat)} {i : Nat} {d : List Bool} (h : waitsOkC md ops c i d = true) : WaitsC md ops c i (fun j => d.getD j false) := fun j oj hoj hd => by
  simp only [waitsOkC, List.all_eq_true, List.mem_range] at h
  have h1 := h j (Array.getElem?_eq_some_iff.1 hoj).1
  simp only [hd, hoj, Bool.not_true, Bool.false_or, List.any_eq_true, Bool.and_eq_true, Bool.or_eq_true, beq_iff_eq] at h1
  rcases h1 with h1 | ⟨e, he, hb, hor⟩
  · exact .inr h1
  · exact .inl ⟨e, by simpa using he, hb, hor⟩
def freeF (P : Program) (md : Region.Mode) (ops : Array Oper) (c : List (Nat × Nat)) (marks is : List Nat) (listed : Array Bool) (k : Nat) (ok : Oper) : Bool :=
  let d := waitsForC md ops c k
  waitsOkC md ops c k d && (d.length == ops.size) && (List.range ops.size).all (fun j => !d.getD j false || !listed.getD j false) &&
  (List.range ops.size).all fun j => listed.getD j true || j == k || d.getD j false || held c k j || match ops[j]? with
    | some oj => besideF P ops marks is ok oj j
    | none => true
def markI (n : Nat) (is : List Nat) (o : Oper) : List Nat := match o.dst with
  | none => is
  | some d => if decide (d < n) then d :: is else is.filter (· != d)
def intC (c : Oper) (a : Act) : Bool := match c.dst with
  | none => true
  | some d => isI (a.eval (.tmp d))
def KeepI (ops : Array Oper) (F : Nat → Bool) (k : Nat) (a : Act) : Prop := F k = true → ∀ o, ops[k]? = some o → intC o a = true
def serialF (P : Program) (md : Region.Mode) (ops : Array Oper) (c : List (Nat × Nat)) (n : Nat) (marks : List Nat) : List Nat → List Nat → Array Bool → Bool
  | [], _, listed => (Region.ready md ops listed).isEmpty
  | k :: ord, is, listed => match ops[k]? with
    | none => false
    | some o => (Region.ready md ops listed).contains k && mayC c listed k && freeF P md ops c marks is listed k o && serialF P md ops c n marks ord (if pureI P is o.op then nextI P n is o else if marks.contains k then markI n is o else leftI is o) (listed.setIfInBounds k true)
def wpOrd (P : Program) (ops : Array Oper) (Q : Exit → Act → World → Prop) (F : Nat → Bool) : List Nat → Act → World → Prop
  | [], a, w => Q .normal a w
  | k :: ord, a, w => wpOp P ops Q k (fun a' w' => (Keep F k w w' ∧ KeepI ops F k a') ∧ wpOrd P ops Q F ord a' w') a w
theorem leftI_put {n : Nat} {is : List Nat} {a : Act} (h : KnowsI n is a) (o : Oper) (v : Value) : KnowsI n (leftI is o) (a.put o.dst v) := by
  unfold leftI
  cases hd : o.dst with
  | none => exact h
  | some d =>
    refine ⟨by simpa [Act.put] using h.1, fun s hs => ?_⟩
    simp only [List.mem_filter, bne_iff_ne] at hs
    have : (a.put (some d) v).eval (.tmp s) = a.eval (.tmp s) := by
      simp only [Act.eval, Act.put]; exact getD_put_ne _ _ _ _ _ (Ne.symm hs.2)
    rw [this]; exact h.2 s hs.1
theorem KnowsI.markI {n : Nat} {is : List Nat} {a b : Act} (h : KnowsI n is a) (o : Oper) {v : Value} (hv : b.tmps = (a.put o.dst v).tmps) (hI : intC o b = true) : KnowsI n (markI n is o) b := by
  unfold S8.markI
  unfold intC at hI
  cases hd : o.dst with
  | none => rw [hd] at hv; exact h.of_tmps hv
  | some d =>
    rw [hd] at hI hv
    have h1 := (leftI_put h o v).of_tmps (b := b) (by rw [hd]; exact hv)
    unfold leftI at h1
    rw [hd] at h1
    simp only [] at h1 hI ⊢
    split
    · refine ⟨h1.1, fun s hs => ?_⟩
      rcases List.mem_cons.1 hs with rfl | hs
      · exact hI
      · by_cases hsd : s = d
        · rw [hsd]; exact hI
        · exact h1.2 s (by simp [hs, hsd])
    · exact h1
theorem serialF_lex (hb : NoBad Q) (hs : Region.noSelect ops = true) (n : Nat) (marks : List Nat) : ∀ (ord is : List Nat) (listed : Array Bool) (a : Act) (w : World), KnowsI n is a →
    serialF P md ops cc n marks ord is listed = true → wpOrd P ops Q (fun i => marks.contains i) ord a w → wpAnyF P md ops Q (fun i => marks.contains i) cc ord.length listed a w
  | [], _, _, _, _, _, hB, h => ⟨by simpa [serialF] using hB, by simpa [wpOrd] using h⟩
  | k :: ord, is, listed, a, w, hI, hB, h => by
    cases h0 : ops[k]? with
    | none => simp only [serialF, h0] at hB; cases hB
    | some o =>
    simp only [serialF, h0, Bool.and_eq_true] at hB
    obtain ⟨⟨⟨hr, hmi⟩, hf⟩, hB'⟩ := hB
    have hready : k ∈ Region.ready md ops listed := by simpa using hr
    simp only [freeF, Bool.and_eq_true, List.all_eq_true, List.mem_range, beq_iff_eq] at hf
    obtain ⟨⟨⟨hw1, hlen⟩, hw2⟩, hw3⟩ := hf
    have hd := waitsOkC_spec hw1
    have hinv : ∀ j, (fun j => (waitsForC md ops cc k).getD j false) j = true → listed.getD j false = false := fun j hj => by
      rcases Nat.lt_or_ge j ops.size with h' | h'
      · have := hw2 j h'
        simp only [hj, Bool.not_true, Bool.false_or] at this
        simpa using this
      · have hj' : (waitsForC md ops cc k).getD j false = true := hj
        rw [List.getD, List.getElem?_eq_none (by omega)] at hj'
        cases hj'
    have hfree : ∀ j, listed.getD j true = false → j ≠ k → (fun j => (waitsForC md ops cc k).getD j false) j = false → held cc k j = false → ∀ oj, ops[j]? = some oj → besideF P ops marks is o oj j = true := fun j hj hjk hdj hh oj hoj => by
      have h1 := hw3 j (Array.getElem?_eq_some_iff.1 hoj).1
      have hdj' : (waitsForC md ops cc k).getD j false = false := hdj
      simp only [hoj, hj, hdj', hh, Bool.or_false, Bool.false_or, Bool.or_eq_true, beq_iff_eq] at h1
      exact h1.resolve_left hjk
    have h' : wpOp P ops Q k (fun a' w' => (Keep (fun i => marks.contains i) k w w' ∧ KeepI ops (fun i => marks.contains i) k a') ∧ wpOrd P ops Q (fun i => marks.contains i) ord a' w') a w := h
    simp only [besideF, Bool.and_eq_true, Bool.or_eq_true] at hfree
    by_cases hp : pureI P is o.op = true
    · rw [if_pos hp] at hB'
      have hpe : PureEx P (execOp a.eval o) := by
        simp only [pureI, Bool.or_eq_true] at hp
        rcases hp with hp | hp
        · exact pureEx_op _ _ hp
        · exact pureEx_int hI o hp
      obtain ⟨v, hy, hK⟩ := wpOp_pure hb h0 hpe h'
      refine wpAnyF_rd hb (C := fun _ => True) (fun _ _ _ _ => trivial) h0 (Region.noSelect_spec hs) hd _ _ _ _ hinv
        (fun j hj hjk hdj hh oj hoj => ⟨(hfree j hj hjk hdj hh oj hoj).1, .inl (.inl fun _ => trivial)⟩) hready hmi trivial hy
        (serialF_lex hb hs n marks ord _ _ _ _ (hI.put o v fun hg hgi => ?_) hB' hK.2)
      rcases hy with ⟨_, hv⟩ | ⟨hw, rfl⟩
      · exact givesI_spec hI o hgi (hv w trivial)
      · exfalso
        unfold Region.wanted at hw
        cases hgd : o.guard with
        | none => rw [hgd] at hw; cases hw
        | some g => rw [hgd] at hg; cases hg
    · rw [if_neg hp] at hB'
      have h2 := wpOp_tmps hb h0 h'
      have H : wpOp P ops Q k (fun a' w' => Keep (fun i => marks.contains i) k w w' ∧ wpAnyF P md ops Q (fun i => marks.contains i) cc ord.length (listed.setIfInBounds k true) a' w') a w :=
        wpOp_mono (fun a' w' hk => ⟨hk.1.1.1, by
          obtain ⟨v, hv⟩ := hk.2
          by_cases hmk : marks.contains k = true
          · rw [if_pos hmk] at hB'
            exact serialF_lex hb hs n marks ord _ _ a' w' (hI.markI o hv (hk.1.1.2 hmk o h0)) hB' hk.1.2
          · rw [if_neg hmk] at hB'
            exact serialF_lex hb hs n marks ord _ _ a' w' ((leftI_put hI o v).of_tmps hv) hB' hk.1.2⟩) h2
      have hpo : pureOp P o.op ≠ true := fun hc => hp (by simp [pureI, hc])
      by_cases hrd : readOp P o.op = true
      · obtain ⟨v, hy, hK⟩ := wpOp_rd hb h0 (rdEx_op _ _ hrd) H
        exact wpAnyF_rd hb (C := Ext w) (fun _ _ h k => h.trans k) h0 (Region.noSelect_spec hs) hd _ _ _ _ hinv
          (fun j hj hjk hdj hh oj hoj => ⟨(hfree j hj hjk hdj hh oj hoj).1, by
            rcases (hfree j hj hjk hdj hh oj hoj).2 with (h1 | h1) | h1
            · exact absurd h1 hp
            · exact .inl (.inr fun ρ => (pureEx_op _ _ h1).rd.meek)
            · rcases h1.2 with h1 | h1
              · exact .inl (.inr fun ρ => meekEx_op _ _ h1)
              · exact .inr h1⟩) hready hmi (Ext.refl _) hy hK.2
      · exact wpAnyF_eff hb h0 (Region.noSelect_spec hs) hd _ _ _ _ hinv
          (fun j hj hjk hdj hh oj hoj => ⟨(hfree j hj hjk hdj hh oj hoj).1, fun ρ => by
            rcases (hfree j hj hjk hdj hh oj hoj).2 with (h1 | h1) | h1
            · exact absurd h1 hp
            · exact pureEx_op _ _ h1
            · exact absurd h1.1 hrd⟩) hready hmi H

/-! ### how it is walked -/
theorem wp_swapQ (hb : NoBad Q) {K K2 : Act → World → Prop} {o : Oper} {a : Act} {w : World} (h : o.wp P a w K (Exit.then K2 Q)) : o.wp P a w K Q := by
  unfold Oper.wp at *
  generalize (execOp a.eval o).run P w = r at *
  cases r with
  | ok n w' =>
    cases n <;> simp only [Oper.upon] at h ⊢
    case value u => exact h
    case skip => exact h
    case defer d => exact h
    case enter f args =>
      refine Calls.mono h fun e w'' he => ?_
      cases e with
      | returned u => exact he
      | panicked c => exact absurd he (hb.pan _ _ _)
      | outgrown => exact absurd he (NoBad.then hb).lets
    case row row args => exact h
  | halt x w' =>
    cases x <;> simp only [Oper.upon] at h ⊢
    exact absurd h (hb.pan _ _ _)
theorem wpOrd_list (hb : NoBad Q) {K : Act → World → Prop} (rest : List Nat) (hK : ∀ a w, K a w → wpOrd P ops Q F rest a w) : ∀ (ord : List Nat) (l : List Oper) (a : Act) (w : World), (∀ i ∈ ord, F i = false) → ord.map (ops[·]?) = l.map some →
    wpList P ops (Exit.then K Q) l a w → wpOrd P ops Q F (ord ++ rest) a w
  | [], l, a, w, _, hl, h => by
    obtain rfl : l = [] := by simpa using hl.symm
    exact hK _ _ h
  | k :: ord, l, a, w, hF, hl, h => by
    match l, hl with
    | o :: l, hl =>
      simp only [List.map_cons, List.cons.injEq] at hl
      show wpOp P ops Q k _ a w
      have hih : ∀ a' w', wpList P ops (Exit.then K Q) l a' w' → (Keep F k w w' ∧ KeepI ops F k a') ∧ wpOrd P ops Q F (ord ++ rest) a' w' := fun a' w' h =>
        ⟨⟨fun hc => (by rw [hF k (by simp)] at hc; cases hc), fun hc => (by rw [hF k (by simp)] at hc; cases hc)⟩, wpOrd_list hb rest hK ord l a' w' (fun i hi => hF i (by simp [hi])) hl.2 h⟩
      have hih0 : ∀ a' w', wpList P ops (Exit.then K Q) l a' w' → (fun a' w' => (Keep F k w w' ∧ KeepI ops F k a') ∧ wpOrd P ops Q F (ord ++ rest) a' w') a' w' := hih
      unfold Go.wpOp
      simp only [hl.1]
      simp only [wpList] at h
      split
      · rename_i hw
        rw [if_pos hw] at h
        rcases h with h | h
        · exact .inl (Oper.wp_mono hih0 (wp_swapQ hb h))
        · exact absurd h.2 (NoBad.then hb).lets
      · rename_i hw
        rw [if_neg hw] at h
        exact hih _ _ h
theorem wpOrd_mark (hb : NoBad Q) (k : Nat) (c : Oper) (rest : List Nat) (hc : ops[k]? = some c) {K : World → Act → World → Prop} (hK : ∀ w a' w', K w a' w' → (Ext w w' ∧ intC c a' = true) ∧ wpOrd P ops Q F rest a' w') {a : Act} {w : World}
    (h : wpList P ops (Exit.then (K w) Q) [c] a w) : wpOrd P ops Q F (k :: rest) a w := by
  show wpOp P ops Q k _ a w
  have hih : ∀ a' w', wpList P ops (Exit.then (K w) Q) [] a' w' → (fun a' w' => (Keep F k w w' ∧ KeepI ops F k a') ∧ wpOrd P ops Q F rest a' w') a' w' := fun a' w' h => by
    have h1 : K w a' w' := h
    exact ⟨⟨fun _ => (hK _ _ _ h1).1.1, fun _ o ho => by rw [hc] at ho; injection ho with ho; rw [← ho]; exact (hK _ _ _ h1).1.2⟩, (hK _ _ _ h1).2⟩
  unfold Go.wpOp
  simp only [hc]
  simp only [wpList] at h
  split
  · rename_i hw
    rw [if_pos hw] at h
    rcases h with h | h
    · exact .inl (Oper.wp_mono (fun a' w' k => hih a' w' (by simpa only [wpList] using k)) (wp_swapQ hb h))
    · exact absurd h.2 (NoBad.then hb).lets
  · rename_i hw
    rw [if_neg hw] at h
    exact hih _ _ (by simpa only [wpList] using h)
theorem wpOrd_last (hb : NoBad Q) : ∀ (ord : List Nat) (l : List Oper) (a : Act) (w : World), (∀ i ∈ ord, F i = false) → ord.map (ops[·]?) = l.map some → wpList P ops Q l a w → wpOrd P ops Q F ord a w
  | [], l, a, w, _, hl, h => by
    obtain rfl : l = [] := by simpa using hl.symm
    exact h
  | k :: ord, l, a, w, hF, hl, h => by
    match l, hl with
    | o :: l, hl =>
      simp only [List.map_cons, List.cons.injEq] at hl
      show wpOp P ops Q k _ a w
      have hih : ∀ a' w', wpList P ops Q l a' w' → (fun a' w' => (Keep F k w w' ∧ KeepI ops F k a') ∧ wpOrd P ops Q F ord a' w') a' w' := fun a' w' h =>
        ⟨⟨fun hc => (by rw [hF k (by simp)] at hc; cases hc), fun hc => (by rw [hF k (by simp)] at hc; cases hc)⟩, wpOrd_last hb ord l a' w' (fun i hi => hF i (by simp [hi])) hl.2 h⟩
      unfold Go.wpOp
      simp only [hl.1]
      simp only [wpList] at h
      split
      · rename_i hw
        rw [if_pos hw] at h
        exact orMap h (Oper.wp_mono hih) id
      · rename_i hw
        rw [if_neg hw] at h
        exact hih _ _ h
/-- the walk: up to each marked operation, it, and on -/
def wpSegs (P : Program) (ops : Array Oper) (Q : Exit → Act → World → Prop) : List (List Oper × Oper) → List Oper → Act → World → Prop
  | [], l => wpList P ops Q l
  | (l1, c) :: r, l => wpList P ops (Exit.then (fun a1 w1 => wpList P ops (Exit.then (fun a2 w2 => (Ext w1 w2 ∧ intC c a2 = true) ∧ wpSegs P ops Q r l a2 w2) Q) [c] a1 w1) Q) l1
def segOrd (segs : List (List Nat × Nat)) (last : List Nat) : List Nat := segs.foldr (fun s acc => s.1 ++ (s.2 :: acc)) last
def serial3 (P : Program) (ops : Array Oper) (c : List (Nat × Nat)) (n : Nat) (is : List Nat) (segs : List (List Nat × Nat)) (last : List Nat) : Bool :=
  Region.noSelect ops && serialF P .any ops c n (segs.map (·.2)) (segOrd segs last) is (Array.replicate ops.size false) && (segOrd segs last).length == ops.size
  && segs.all (fun s => s.1.all fun i => !(segs.map (·.2)).contains i) && last.all fun i => !(segs.map (·.2)).contains i
theorem wpSegs_ord (hb : NoBad Q) (last : List Nat) (lL : List Oper) (hL : last.map (ops[·]?) = lL.map some) (hFL : ∀ i ∈ last, F i = false) : ∀ (segs : List (List Nat × Nat)) (lS : List (List Oper × Oper)) (a : Act) (w : World),
    (∀ s ∈ segs, ∀ i ∈ s.1, F i = false) → segs.map (fun s => (s.1.map (ops[·]?), ops[s.2]?)) = lS.map (fun s => (s.1.map some, some s.2)) → wpSegs P ops Q lS lL a w → wpOrd P ops Q F (segOrd segs last) a w
  | [], lS, a, w, _, hS, h => by
    obtain rfl : lS = [] := by simpa using hS.symm
    exact wpOrd_last hb last lL a w hFL hL h
  | s :: segs, lS, a, w, hF, hS, h => by
    match lS, hS with
    | (l1, c) :: lS, hS =>
      simp only [List.map_cons, List.cons.injEq, Prod.mk.injEq] at hS
      refine wpOrd_list hb (s.2 :: segOrd segs last) (fun a1 w1 h1 => ?_) s.1 l1 a w (hF s (by simp)) hS.1.1 h
      exact wpOrd_mark hb s.2 c (segOrd segs last) hS.1.2 (K := fun w1 a2 w2 => (Ext w1 w2 ∧ intC c a2 = true) ∧ wpSegs P ops Q lS lL a2 w2) (fun w a' w' hk => ⟨hk.1, wpSegs_ord hb last lL hL hFL segs lS a' w' (fun s hs => hF s (by simp [hs])) hS.2 hk.2⟩) h1
theorem serial3_any (n : Nat) (is : List Nat) (segs : List (List Nat × Nat)) (last : List Nat) {a : Act} {w : World} (lS : List (List Oper × Oper)) (lL : List Oper)
    (hB : serial3 P ops cc n is segs last = true) (hS : segs.map (fun s => (s.1.map (ops[·]?), ops[s.2]?)) = lS.map (fun s => (s.1.map some, some s.2))) (hL : last.map (ops[·]?) = lL.map some)
    (hI : KnowsI n is a) (hb : NoBad Q) (h : wpSegs P ops Q lS lL a w) : wpAnyC P .any ops Q cc ops.size (Array.replicate ops.size false) a w := by
  simp only [serial3, Bool.and_eq_true, beq_iff_eq, List.all_eq_true, Bool.not_eq_true'] at hB
  obtain ⟨⟨⟨⟨hs, hF⟩, hlen⟩, h1⟩, h2⟩ := hB
  have := serialF_lex (md := .any) hb hs n (segs.map (·.2)) (segOrd segs last) is _ a w hI hF (wpSegs_ord hb last lL hL h2 segs lS a w h1 hS h)
  rw [hlen] at this
  exact this.any
theorem obeys_nil : ∀ (l : List Nat) (L : Array Bool), obeys [] L l = true
  | [], _ => rfl
  | i :: l, L => by simp only [obeys, mayC, List.all_nil, Bool.true_and]; exact obeys_nil l _
theorem obeys_app (c d : List (Nat × Nat)) : ∀ (l : List Nat) (L : Array Bool), obeys c L l = true → obeys d L l = true → obeys (c ++ d) L l = true
  | [], _, _, _ => rfl
  | i :: l, L, h, k => by
    simp only [obeys, mayC, List.all_append, Bool.and_eq_true] at *
    exact ⟨⟨h.1, k.1⟩, obeys_app c d l _ h.2 k.2⟩
/-- where x may stand among cs -/
def places (x : Nat) : List Nat → List (Nat × Nat) → List (List (Nat × Nat))
  | [], c => [c]
  | k :: cs, c => (c ++ [(k, x)]) :: places x cs (c ++ [(x, k)])
theorem places_all (x : Nat) : ∀ (cs : List Nat) (c : List (Nat × Nat)) (l : List Nat) (L : Array Bool), (∀ k ∈ cs, x ≠ k) → (∀ i ∈ l, i < L.size) → obeys c L l = true → ∃ d ∈ places x cs c, obeys d L l = true
  | [], c, l, L, _, _, h => ⟨c, by simp [places], h⟩
  | k :: cs, c, l, L, hx, hL, h => by
    rcases obeys_or (hx k (by simp)) l L hL with h1 | h1
    · obtain ⟨d, hd, h2⟩ := places_all x cs (c ++ [(x, k)]) l L (fun i hi => hx i (by simp [hi])) hL (obeys_app _ _ _ _ h h1)
      exact ⟨d, by simp [places, hd], h2⟩
    · exact ⟨c ++ [(k, x)], by simp [places], obeys_app _ _ _ _ h h1⟩
theorem wp_places (x : Nat) (cs : List Nat) {id : Nat} {a : Act} {w : World} {l : List Oper} (hm : P.follows .mixedOrders = true) (hx : cs.all (· != x) = true)
    (h : ∀ d ∈ places x cs [], wpAnyC P .any l.toArray Q d l.toArray.size (Array.replicate l.toArray.size false) a w.drew) : (Code.region id l.toArray true).wp P Q a w := by
  refine wp_region_draw fun t => ?_
  simp only [Region.schedule, hm, Bool.true_or, if_true]
  change wpOps P l.toArray Q (Region.linearise.go .any l.toArray l.toArray.size t (Array.replicate l.toArray.size false) []) a w.drew
  have hlt := lin_lt (md := .any) (ops := l.toArray) l.toArray.size t (Array.replicate l.toArray.size false) (by simp)
  obtain ⟨d, hd, h2⟩ := places_all x cs [] _ (Array.replicate l.toArray.size false) (fun k hk => by have := List.all_eq_true.1 hx k hk; simp at this; exact Ne.symm this) (fun i hi => by simpa using hlt i hi) (obeys_nil (Region.linearise.go .any l.toArray l.toArray.size t (Array.replicate l.toArray.size false) []) _)
  exact wpAnyC_sound _ t _ _ _ h2 (h d hd)
/-- **one order for all** -/
theorem wp_serial3 (n : Nat) (is : List Nat) (segs : List (List Nat × Nat)) (last : List Nat) {id : Nat} {a : Act} {w : World} {l : List Oper} (lS : List (List Oper × Oper)) (lL : List Oper) (hm : P.follows .mixedOrders = true)
    (hB : serial3 P l.toArray [] n is segs last = true) (hS : segs.map (fun s => (s.1.map (l.toArray[·]?), l.toArray[s.2]?)) = lS.map (fun s => (s.1.map some, some s.2))) (hL : last.map (l.toArray[·]?) = lL.map some)
    (hI : KnowsI n is a) (hb : NoBad Q) (h : wpSegs P l.toArray Q lS lL a w.drew) : (Code.region id l.toArray true).wp P Q a w :=
  wp_places 0 [] hm rfl fun d hd => by
    obtain rfl : d = [] := by simpa [places] using hd
    exact serial3_any n is segs last lS lL hB hS hL (hI.of_tmps rfl) hb h
/-- **one operation x that may stand anywhere among the chain cs: a walk for each place** -/
def wpAll (P : Program) (ops : Array Oper) (Q : Exit → Act → World → Prop) (a : Act) (w : World) : List (List Oper) → Prop
  | [] => True
  | l :: r => wpList P ops Q l a w ∧ wpAll P ops Q a w r
theorem wp_serial4 (n : Nat) (is : List Nat) (x : Nat) (cs : List Nat) (ords : List (List Nat)) {id : Nat} {a : Act} {w : World} {l : List Oper} (lS : List (List Oper)) (hm : P.follows .mixedOrders = true)
    (hB : (cs.all (· != x) && (ords.length == (places x cs []).length) && ((places x cs []).zip ords).all fun p => serial3 P l.toArray p.1 n is [] p.2) = true) (hS : ords.map (fun o => o.map (l.toArray[·]?)) = lS.map (fun s => s.map some))
    (hI : KnowsI n is a) (hb : NoBad Q) (h : wpAll P l.toArray Q a w.drew lS) : (Code.region id l.toArray true).wp P Q a w := by
  simp only [Bool.and_eq_true, beq_iff_eq] at hB
  obtain ⟨⟨h1, h2⟩, h3⟩ := hB
  refine wp_places x cs hm h1 ?_
  generalize places x cs [] = ds at h2 h3 ⊢
  induction ds generalizing ords lS with
  | nil => intro d hd; cases hd
  | cons d ds ih =>
    match ords, h2 with
    | o :: ords, h2 =>
      match lS, hS with
      | l1 :: lS, hS =>
        simp only [List.map_cons, List.cons.injEq] at hS
        simp only [List.zip_cons_cons, List.all_cons, Bool.and_eq_true] at h3
        intro d' hd'
        rcases List.mem_cons.1 hd' with rfl | hd'
        · exact serial3_any n is [] o [] l1 h3.1 rfl hS.1 (hI.of_tmps rfl) hb h.1
        · exact ih ords lS hS.2 h.2 (by simpa using h2) h3.2 d' hd'
theorem wp_serial3_0 (n : Nat) (is last : List Nat) {id : Nat} {a : Act} {w : World} {l : List Oper} (lL : List Oper) (hm : P.follows .mixedOrders = true)
    (hB : serial3 P l.toArray [] n is [] last = true) (hL : last.map (l.toArray[·]?) = lL.map some)
    (hI : KnowsI n is a) (hb : NoBad Q) (h : wpList P l.toArray Q lL a w.drew) : (Code.region id l.toArray true).wp P Q a w :=
  wp_serial3 n is [] last [] lL hm hB rfl hL hI hb h
theorem wp_serial3_1 (n : Nat) (is : List Nat) (s1 : List Nat) (k1 : Nat) (last : List Nat) {id : Nat} {a : Act} {w : World} {l : List Oper} (l1 : List Oper) (c1 : Oper) (lL : List Oper) (hm : P.follows .mixedOrders = true)
    (hB : serial3 P l.toArray [] n is [(s1, k1)] last = true) (h1 : s1.map (l.toArray[·]?) = l1.map some) (hc1 : l.toArray[k1]? = some c1) (hL : last.map (l.toArray[·]?) = lL.map some)
    (hI : KnowsI n is a) (hb : NoBad Q) (h : wpList P l.toArray (Exit.then (fun a1 w1 => wpList P l.toArray (Exit.then (fun a2 w2 => (Ext w1 w2 ∧ intC c1 a2 = true) ∧ wpList P l.toArray Q lL a2 w2) Q) [c1] a1 w1) Q) l1 a w.drew) : (Code.region id l.toArray true).wp P Q a w :=
  wp_serial3 n is [(s1, k1)] last [(l1, c1)] lL hm hB (by simp only [List.map_cons, List.map_nil, h1, hc1]) hL hI hb h
theorem wp_serial3_2 (n : Nat) (is : List Nat) (s1 : List Nat) (k1 : Nat) (s2 : List Nat) (k2 : Nat) (last : List Nat) {id : Nat} {a : Act} {w : World} {l : List Oper} (l1 : List Oper) (c1 : Oper) (l2 : List Oper) (c2 : Oper) (lL : List Oper) (hm : P.follows .mixedOrders = true)
    (hB : serial3 P l.toArray [] n is [(s1, k1), (s2, k2)] last = true) (h1 : s1.map (l.toArray[·]?) = l1.map some) (hc1 : l.toArray[k1]? = some c1) (h2 : s2.map (l.toArray[·]?) = l2.map some) (hc2 : l.toArray[k2]? = some c2) (hL : last.map (l.toArray[·]?) = lL.map some)
    (hI : KnowsI n is a) (hb : NoBad Q) (h : wpList P l.toArray (Exit.then (fun a1 w1 => wpList P l.toArray (Exit.then (fun a2 w2 => (Ext w1 w2 ∧ intC c1 a2 = true) ∧ wpList P l.toArray (Exit.then (fun a1 w1 => wpList P l.toArray (Exit.then (fun a2 w2 => (Ext w1 w2 ∧ intC c2 a2 = true) ∧ wpList P l.toArray Q lL a2 w2) Q) [c2] a1 w1) Q) l2 a2 w2) Q) [c1] a1 w1) Q) l1 a w.drew) : (Code.region id l.toArray true).wp P Q a w :=
  wp_serial3 n is [(s1, k1), (s2, k2)] last [(l1, c1), (l2, c2)] lL hm hB (by simp only [List.map_cons, List.map_nil, h1, hc1, h2, hc2]) hL hI hb h
theorem wp_serial3_3 (n : Nat) (is : List Nat) (s1 : List Nat) (k1 : Nat) (s2 : List Nat) (k2 : Nat) (s3 : List Nat) (k3 : Nat) (last : List Nat) {id : Nat} {a : Act} {w : World} {l : List Oper} (l1 : List Oper) (c1 : Oper) (l2 : List Oper) (c2 : Oper) (l3 : List Oper) (c3 : Oper) (lL : List Oper) (hm : P.follows .mixedOrders = true)
    (hB : serial3 P l.toArray [] n is [(s1, k1), (s2, k2), (s3, k3)] last = true) (h1 : s1.map (l.toArray[·]?) = l1.map some) (hc1 : l.toArray[k1]? = some c1) (h2 : s2.map (l.toArray[·]?) = l2.map some) (hc2 : l.toArray[k2]? = some c2) (h3 : s3.map (l.toArray[·]?) = l3.map some) (hc3 : l.toArray[k3]? = some c3) (hL : last.map (l.toArray[·]?) = lL.map some)
    (hI : KnowsI n is a) (hb : NoBad Q) (h : wpList P l.toArray (Exit.then (fun a1 w1 => wpList P l.toArray (Exit.then (fun a2 w2 => (Ext w1 w2 ∧ intC c1 a2 = true) ∧ wpList P l.toArray (Exit.then (fun a1 w1 => wpList P l.toArray (Exit.then (fun a2 w2 => (Ext w1 w2 ∧ intC c2 a2 = true) ∧ wpList P l.toArray (Exit.then (fun a1 w1 => wpList P l.toArray (Exit.then (fun a2 w2 => (Ext w1 w2 ∧ intC c3 a2 = true) ∧ wpList P l.toArray Q lL a2 w2) Q) [c3] a1 w1) Q) l3 a2 w2) Q) [c2] a1 w1) Q) l2 a2 w2) Q) [c1] a1 w1) Q) l1 a w.drew) : (Code.region id l.toArray true).wp P Q a w :=
  wp_serial3 n is [(s1, k1), (s2, k2), (s3, k3)] last [(l1, c1), (l2, c2), (l3, c3)] lL hm hB (by simp only [List.map_cons, List.map_nil, h1, hc1, h2, hc2, h3, hc3]) hL hI hb h
theorem wp_serial3_4 (n : Nat) (is : List Nat) (s1 : List Nat) (k1 : Nat) (s2 : List Nat) (k2 : Nat) (s3 : List Nat) (k3 : Nat) (s4 : List Nat) (k4 : Nat) (last : List Nat) {id : Nat} {a : Act} {w : World} {l : List Oper} (l1 : List Oper) (c1 : Oper) (l2 : List Oper) (c2 : Oper) (l3 : List Oper) (c3 : Oper) (l4 : List Oper) (c4 : Oper) (lL : List Oper) (hm : P.follows .mixedOrders = true)
    (hB : serial3 P l.toArray [] n is [(s1, k1), (s2, k2), (s3, k3), (s4, k4)] last = true) (h1 : s1.map (l.toArray[·]?) = l1.map some) (hc1 : l.toArray[k1]? = some c1) (h2 : s2.map (l.toArray[·]?) = l2.map some) (hc2 : l.toArray[k2]? = some c2) (h3 : s3.map (l.toArray[·]?) = l3.map some) (hc3 : l.toArray[k3]? = some c3) (h4 : s4.map (l.toArray[·]?) = l4.map some) (hc4 : l.toArray[k4]? = some c4) (hL : last.map (l.toArray[·]?) = lL.map some)
    (hI : KnowsI n is a) (hb : NoBad Q) (h : wpList P l.toArray (Exit.then (fun a1 w1 => wpList P l.toArray (Exit.then (fun a2 w2 => (Ext w1 w2 ∧ intC c1 a2 = true) ∧ wpList P l.toArray (Exit.then (fun a1 w1 => wpList P l.toArray (Exit.then (fun a2 w2 => (Ext w1 w2 ∧ intC c2 a2 = true) ∧ wpList P l.toArray (Exit.then (fun a1 w1 => wpList P l.toArray (Exit.then (fun a2 w2 => (Ext w1 w2 ∧ intC c3 a2 = true) ∧ wpList P l.toArray (Exit.then (fun a1 w1 => wpList P l.toArray (Exit.then (fun a2 w2 => (Ext w1 w2 ∧ intC c4 a2 = true) ∧ wpList P l.toArray Q lL a2 w2) Q) [c4] a1 w1) Q) l4 a2 w2) Q) [c3] a1 w1) Q) l3 a2 w2) Q) [c2] a1 w1) Q) l2 a2 w2) Q) [c1] a1 w1) Q) l1 a w.drew) : (Code.region id l.toArray true).wp P Q a w :=
  wp_serial3 n is [(s1, k1), (s2, k2), (s3, k3), (s4, k4)] last [(l1, c1), (l2, c2), (l3, c3), (l4, c4)] lL hm hB (by simp only [List.map_cons, List.map_nil, h1, hc1, h2, hc2, h3, hc3, h4, hc4]) hL hI hb h
theorem wp_serial3_5 (n : Nat) (is : List Nat) (s1 : List Nat) (k1 : Nat) (s2 : List Nat) (k2 : Nat) (s3 : List Nat) (k3 : Nat) (s4 : List Nat) (k4 : Nat) (s5 : List Nat) (k5 : Nat) (last : List Nat) {id : Nat} {a : Act} {w : World} {l : List Oper} (l1 : List Oper) (c1 : Oper) (l2 : List Oper) (c2 : Oper) (l3 : List Oper) (c3 : Oper) (l4 : List Oper) (c4 : Oper) (l5 : List Oper) (c5 : Oper) (lL : List Oper) (hm : P.follows .mixedOrders = true)
    (hB : serial3 P l.toArray [] n is [(s1, k1), (s2, k2), (s3, k3), (s4, k4), (s5, k5)] last = true) (h1 : s1.map (l.toArray[·]?) = l1.map some) (hc1 : l.toArray[k1]? = some c1) (h2 : s2.map (l.toArray[·]?) = l2.map some) (hc2 : l.toArray[k2]? = some c2) (h3 : s3.map (l.toArray[·]?) = l3.map some) (hc3 : l.toArray[k3]? = some c3) (h4 : s4.map (l.toArray[·]?) = l4.map some) (hc4 : l.toArray[k4]? = some c4) (h5 : s5.map (l.toArray[·]?) = l5.map some) (hc5 : l.toArray[k5]? = some c5) (hL : last.map (l.toArray[·]?) = lL.map some)
    (hI : KnowsI n is a) (hb : NoBad Q) (h : wpList P l.toArray (Exit.then (fun a1 w1 => wpList P l.toArray (Exit.then (fun a2 w2 => (Ext w1 w2 ∧ intC c1 a2 = true) ∧ wpList P l.toArray (Exit.then (fun a1 w1 => wpList P l.toArray (Exit.then (fun a2 w2 => (Ext w1 w2 ∧ intC c2 a2 = true) ∧ wpList P l.toArray (Exit.then (fun a1 w1 => wpList P l.toArray (Exit.then (fun a2 w2 => (Ext w1 w2 ∧ intC c3 a2 = true) ∧ wpList P l.toArray (Exit.then (fun a1 w1 => wpList P l.toArray (Exit.then (fun a2 w2 => (Ext w1 w2 ∧ intC c4 a2 = true) ∧ wpList P l.toArray (Exit.then (fun a1 w1 => wpList P l.toArray (Exit.then (fun a2 w2 => (Ext w1 w2 ∧ intC c5 a2 = true) ∧ wpList P l.toArray Q lL a2 w2) Q) [c5] a1 w1) Q) l5 a2 w2) Q) [c4] a1 w1) Q) l4 a2 w2) Q) [c3] a1 w1) Q) l3 a2 w2) Q) [c2] a1 w1) Q) l2 a2 w2) Q) [c1] a1 w1) Q) l1 a w.drew) : (Code.region id l.toArray true).wp P Q a w :=
  wp_serial3 n is [(s1, k1), (s2, k2), (s3, k3), (s4, k4), (s5, k5)] last [(l1, c1), (l2, c2), (l3, c3), (l4, c4), (l5, c5)] lL hm hB (by simp only [List.map_cons, List.map_nil, h1, hc1, h2, hc2, h3, hc3, h4, hc4, h5, hc5]) hL hI hb h
theorem wp_serial3_6 (n : Nat) (is : List Nat) (s1 : List Nat) (k1 : Nat) (s2 : List Nat) (k2 : Nat) (s3 : List Nat) (k3 : Nat) (s4 : List Nat) (k4 : Nat) (s5 : List Nat) (k5 : Nat) (s6 : List Nat) (k6 : Nat) (last : List Nat) {id : Nat} {a : Act} {w : World} {l : List Oper} (l1 : List Oper) (c1 : Oper) (l2 : List Oper) (c2 : Oper) (l3 : List Oper) (c3 : Oper) (l4 : List Oper) (c4 : Oper) (l5 : List Oper) (c5 : Oper) (l6 : List Oper) (c6 : Oper) (lL : List Oper) (hm : P.follows .mixedOrders = true)
    (hB : serial3 P l.toArray [] n is [(s1, k1), (s2, k2), (s3, k3), (s4, k4), (s5, k5), (s6, k6)] last = true) (h1 : s1.map (l.toArray[·]?) = l1.map some) (hc1 : l.toArray[k1]? = some c1) (h2 : s2.map (l.toArray[·]?) = l2.map some) (hc2 : l.toArray[k2]? = some c2) (h3 : s3.map (l.toArray[·]?) = l3.map some) (hc3 : l.toArray[k3]? = some c3) (h4 : s4.map (l.toArray[·]?) = l4.map some) (hc4 : l.toArray[k4]? = some c4) (h5 : s5.map (l.toArray[·]?) = l5.map some) (hc5 : l.toArray[k5]? = some c5) (h6 : s6.map (l.toArray[·]?) = l6.map some) (hc6 : l.toArray[k6]? = some c6) (hL : last.map (l.toArray[·]?) = lL.map some)
    (hI : KnowsI n is a) (hb : NoBad Q) (h : wpList P l.toArray (Exit.then (fun a1 w1 => wpList P l.toArray (Exit.then (fun a2 w2 => (Ext w1 w2 ∧ intC c1 a2 = true) ∧ wpList P l.toArray (Exit.then (fun a1 w1 => wpList P l.toArray (Exit.then (fun a2 w2 => (Ext w1 w2 ∧ intC c2 a2 = true) ∧ wpList P l.toArray (Exit.then (fun a1 w1 => wpList P l.toArray (Exit.then (fun a2 w2 => (Ext w1 w2 ∧ intC c3 a2 = true) ∧ wpList P l.toArray (Exit.then (fun a1 w1 => wpList P l.toArray (Exit.then (fun a2 w2 => (Ext w1 w2 ∧ intC c4 a2 = true) ∧ wpList P l.toArray (Exit.then (fun a1 w1 => wpList P l.toArray (Exit.then (fun a2 w2 => (Ext w1 w2 ∧ intC c5 a2 = true) ∧ wpList P l.toArray (Exit.then (fun a1 w1 => wpList P l.toArray (Exit.then (fun a2 w2 => (Ext w1 w2 ∧ intC c6 a2 = true) ∧ wpList P l.toArray Q lL a2 w2) Q) [c6] a1 w1) Q) l6 a2 w2) Q) [c5] a1 w1) Q) l5 a2 w2) Q) [c4] a1 w1) Q) l4 a2 w2) Q) [c3] a1 w1) Q) l3 a2 w2) Q) [c2] a1 w1) Q) l2 a2 w2) Q) [c1] a1 w1) Q) l1 a w.drew) : (Code.region id l.toArray true).wp P Q a w :=
  wp_serial3 n is [(s1, k1), (s2, k2), (s3, k3), (s4, k4), (s5, k5), (s6, k6)] last [(l1, c1), (l2, c2), (l3, c3), (l4, c4), (l5, c5), (l6, c6)] lL hm hB (by simp only [List.map_cons, List.map_nil, h1, hc1, h2, hc2, h3, hc3, h4, hc4, h5, hc5, h6, hc6]) hL hI hb h
end
end Go.Proofs.Ytijmbpokglohbaa.S8

namespace Go.Proofs.Ytijmbpokglohbaa
namespace S9
set_option linter.unusedSimpArgs false
set_option linter.unusedVariables false
section
variable {P : Program} {md : Region.Mode} {ops : Array Oper} {Q : Exit → Act → World → Prop}
theorem mayC_app (c c' : List (Nat × Nat)) (L : Array Bool) (m : Nat) : mayC (c ++ c') L m = (mayC c L m && mayC c' L m) := by simp [mayC, List.all_append]
theorem obeys_app (c c' : List (Nat × Nat)) : ∀ (l : List Nat) (L : Array Bool), obeys (c ++ c') L l = (obeys c L l && obeys c' L l)
  | [], _ => rfl
  | i :: l, L => by
    simp only [obeys, mayC_app, obeys_app c c' l]
    cases mayC c L i <;> cases mayC c' L i <;> simp
/-- what follows from c by what waits for what -/
def liftOk (md : Region.Mode) (ops : Array Oper) (c c' : List (Nat × Nat)) : Bool := c'.all fun p => c.contains p || c.any fun q => q.1 == p.1 && match ops[q.2]? with
  | some o => o.after.toList.any fun e => Region.binds md e && e.on == p.2
  | none => false
def ListedOk (md : Region.Mode) (ops : Array Oper) (L : Array Bool) : Prop := ∀ z oz, ops[z]? = some oz → L.getD z false = true → ∀ e ∈ oz.after, Region.binds md e = true → L.getD e.on false = true
theorem mayC_lift {c c' : List (Nat × Nat)} (h : liftOk md ops c c' = true) {L : Array Bool} (hL : ListedOk md ops L) {m : Nat} (hm : mayC c L m = true) : mayC c' L m = true := by
  simp only [mayC, List.all_eq_true, Bool.or_eq_true, Bool.not_eq_true', beq_eq_false_iff_ne] at hm ⊢
  simp only [liftOk, List.all_eq_true, Bool.or_eq_true, List.contains_iff_mem, List.any_eq_true, Bool.and_eq_true, beq_iff_eq] at h
  intro p hp
  by_cases hmp : m = p.1
  · right
    rcases h p hp with h1 | ⟨q, hq, e1, h1⟩
    · exact (hm p h1).resolve_left (fun k => k hmp)
    · have h2 := (hm q hq).resolve_left (fun k => k (by rw [e1]; exact hmp))
      cases ho : ops[q.2]? with
      | none => rw [ho] at h1; cases h1
      | some o =>
        rw [ho] at h1
        simp only [List.any_eq_true, Bool.and_eq_true, beq_iff_eq] at h1
        obtain ⟨e, he, hb, he2⟩ := h1
        rw [← he2]
        exact hL q.2 o ho h2 e (by simpa using he) hb
  · exact .inl hmp
theorem listed_set {L : Array Bool} (hL : ListedOk md ops L) {i : Nat} (hi : i ∈ Region.ready md ops L) : ListedOk md ops (L.setIfInBounds i true) := by
  intro z oz hz hl e he hb
  have up : ∀ k, L.getD k false = true → (L.setIfInBounds i true).getD k false = true := fun k hk => by
    by_cases hik : i = k
    · subst hik
      have : i < L.size := by
        rcases Nat.lt_or_ge i L.size with h' | h'
        · exact h'
        · simp [Array.getElem?_eq_none h'] at hk
      simp [this]
    · rw [getD_set_ne false hik]; exact hk
  obtain ⟨_, oi, hoi, hall⟩ := mem_ready.1 hi
  by_cases hiz : i = z
  · subst hiz
    rw [hoi] at hz
    injection hz with hz
    subst hz
    exact up _ (hall e he hb)
  · rw [getD_set_ne false hiz] at hl
    exact up _ (hL z oz hz hl e he hb)
theorem obeys_lift {c c' : List (Nat × Nat)} (h : liftOk md ops c c' = true) : ∀ (fuel t : Nat) (L : Array Bool), ListedOk md ops L → obeys c L (Region.linearise.go md ops fuel t L []) = true → obeys c' L (Region.linearise.go md ops fuel t L []) = true := by
  intro fuel
  induction fuel with
  | zero => intro t L _ _; simp [Region.linearise.go, obeys]
  | succ fuel ih =>
    intro t L hL ho
    simp only [Region.linearise.go] at ho ⊢
    split
    · rename_i i hi
      rw [hi] at ho
      simp only [] at ho
      have hri := List.mem_of_getElem? hi
      rw [linearise_go_acc, List.reverse_singleton, List.singleton_append] at ho ⊢
      simp only [obeys, Bool.and_eq_true] at ho ⊢
      exact ⟨mayC_lift h hL ho.1, ih _ _ (listed_set hL hri) ho.2⟩
    · rfl
def caseOk (P : Program) (ops : Array Oper) (c c' : List (Nat × Nat)) (ord : List Nat) : Bool :=
  liftOk .any ops c c' && serialC P .any ops c' ord (Array.replicate ops.size false) && ord.all (fun i => decide (i < ops.size)) && ord.length == ops.size
theorem one_case {c c' : List (Nat × Nat)} {ord : List Nat} {l : List Oper} {a : Act} {w : World} (lB : List Oper) (hs : Region.noSelect l.toArray = true) (hB : caseOk P l.toArray c c' ord = true) (hlB : ord.filterMap (l.toArray[·]?) = lB) (hb : NoBad Q)
    (h2 : wpList P l.toArray Q lB a w) (t : Nat) (h : obeys c (Array.replicate l.toArray.size false) (Region.linearise.go .any l.toArray l.toArray.size t (Array.replicate l.toArray.size false) []) = true) :
    wpOps P l.toArray Q (Region.linearise.go .any l.toArray l.toArray.size t (Array.replicate l.toArray.size false) []) a w := by
  simp only [caseOk, Bool.and_eq_true, beq_iff_eq] at hB
  obtain ⟨⟨⟨hL, hBB⟩, hin⟩, hlen⟩ := hB
  have hall : ∀ i ∈ ord, i < l.toArray.size := fun i hi => by simpa using List.all_eq_true.1 hin i hi
  have hmap : lB = ord.map fun i => (l.toArray[i]?).getD ⟨none, .move (.tmp 0), 0, "", #[], none⟩ := by
    rw [← hlB]
    exact filterMap_all _ _ _ (fun i hi => by simp [Array.getElem?_eq_getElem (hall i hi)])
  have h2' : wpOps P l.toArray Q ord a w := by
    refine wpOps_perm _ lB (fun i => ?_) (by rw [hmap, List.length_map]) a w h2
    rw [hmap, List.getElem?_map]
    cases hi : ord[i]? with
    | none => rfl
    | some m =>
      have hm' : m < l.length := by simpa using hall m (List.mem_of_getElem? hi)
      simp [hm']
  have h3 := serialC_lex hb hs _ _ a w hBB h2'
  rw [hlen] at h3
  refine wpAnyC_sound _ t _ _ _ (obeys_lift hL _ _ _ ?_ h) h3
  intro z oz _ hz
  simp only [Array.getD_eq_getD_getElem?, Array.getElem?_replicate] at hz
  split at hz <;> simp at hz
/-- **three orders for all**: p an alloc, q its reader, j a call beside both -/
theorem wp_serial9 (p q j : Nat) (c1 : List (Nat × Nat)) (o1 o2 o3 : List Nat) {id : Nat} {a : Act} {w : World} {l : List Oper} (l1 l2 l3 : List Oper) (hm : P.follows .mixedOrders = true)
    (hB : (Region.noSelect l.toArray && decide (p ≠ j) && decide (q ≠ j) && caseOk P l.toArray [(j, q)] c1 o1 && caseOk P l.toArray ([(q, j)] ++ [(p, j)]) [(q, j), (p, j)] o2 && caseOk P l.toArray ([(q, j)] ++ [(j, p)]) [(q, j), (j, p)] o3) = true)
    (e1 : o1.filterMap (l.toArray[·]?) = l1) (e2 : o2.filterMap (l.toArray[·]?) = l2) (e3 : o3.filterMap (l.toArray[·]?) = l3) (hb : NoBad Q)
    (h1 : wpList P l.toArray Q l1 a w.drew) (h2 : wpList P l.toArray Q l2 a w.drew) (h3 : wpList P l.toArray Q l3 a w.drew) : (Code.region id l.toArray true).wp P Q a w := by
  simp only [Bool.and_eq_true, decide_eq_true_eq] at hB
  obtain ⟨⟨⟨⟨⟨hs, hpj⟩, hqj⟩, k1⟩, k2⟩, k3⟩ := hB
  refine wp_region_draw fun t => ?_
  simp only [Region.schedule, hm, Bool.true_or, if_true]
  change wpOps P l.toArray Q (Region.linearise.go .any l.toArray l.toArray.size t (Array.replicate l.toArray.size false) []) a w.drew
  have hlt := lin_lt (md := .any) (ops := l.toArray) l.toArray.size t (Array.replicate l.toArray.size false) (by simp)
  have hin : ∀ i ∈ Region.linearise.go .any l.toArray l.toArray.size t (Array.replicate l.toArray.size false) [], i < (Array.replicate l.toArray.size false).size := fun i hi => by simpa using hlt i hi
  rcases obeys_or (x := j) (y := q) (fun h => hqj h.symm) _ _ hin with h | h
  · exact one_case l1 hs k1 e1 hb h1 t h
  · rcases obeys_or (x := p) (y := j) hpj _ _ hin with h' | h'
    · exact one_case l2 hs k2 e2 hb h2 t (by rw [obeys_app, h, h']; rfl)
    · exact one_case l3 hs k3 e3 hb h3 t (by rw [obeys_app, h, h']; rfl)
/-- **four orders for all**: two pairs that may come in either order -/
theorem wp_serial22 (x y u v : Nat) (o1 o2 o3 o4 : List Nat) {id : Nat} {a : Act} {w : World} {l : List Oper} (l1 l2 l3 l4 : List Oper) (hm : P.follows .mixedOrders = true)
    (hB : (Region.noSelect l.toArray && decide (x ≠ y) && decide (u ≠ v) && caseOk P l.toArray ([(x, y)] ++ [(u, v)]) [(x, y), (u, v)] o1 && caseOk P l.toArray ([(x, y)] ++ [(v, u)]) [(x, y), (v, u)] o2 && caseOk P l.toArray ([(y, x)] ++ [(u, v)]) [(y, x), (u, v)] o3 && caseOk P l.toArray ([(y, x)] ++ [(v, u)]) [(y, x), (v, u)] o4) = true)
    (e1 : o1.filterMap (l.toArray[·]?) = l1) (e2 : o2.filterMap (l.toArray[·]?) = l2) (e3 : o3.filterMap (l.toArray[·]?) = l3) (e4 : o4.filterMap (l.toArray[·]?) = l4) (hb : NoBad Q)
    (h1 : wpList P l.toArray Q l1 a w.drew) (h2 : wpList P l.toArray Q l2 a w.drew) (h3 : wpList P l.toArray Q l3 a w.drew) (h4 : wpList P l.toArray Q l4 a w.drew) : (Code.region id l.toArray true).wp P Q a w := by
  simp only [Bool.and_eq_true, decide_eq_true_eq] at hB
  obtain ⟨⟨⟨⟨⟨⟨hs, hxy⟩, huv⟩, k1⟩, k2⟩, k3⟩, k4⟩ := hB
  refine wp_region_draw fun t => ?_
  simp only [Region.schedule, hm, Bool.true_or, if_true]
  change wpOps P l.toArray Q (Region.linearise.go .any l.toArray l.toArray.size t (Array.replicate l.toArray.size false) []) a w.drew
  have hlt := lin_lt (md := .any) (ops := l.toArray) l.toArray.size t (Array.replicate l.toArray.size false) (by simp)
  have hin : ∀ i ∈ Region.linearise.go .any l.toArray l.toArray.size t (Array.replicate l.toArray.size false) [], i < (Array.replicate l.toArray.size false).size := fun i hi => by simpa using hlt i hi
  rcases obeys_or (x := x) (y := y) hxy _ _ hin with h | h
  · rcases obeys_or (x := u) (y := v) huv _ _ hin with h' | h'
    · exact one_case l1 hs k1 e1 hb h1 t (by rw [obeys_app, h, h']; rfl)
    · exact one_case l2 hs k2 e2 hb h2 t (by rw [obeys_app, h, h']; rfl)
  · rcases obeys_or (x := u) (y := v) huv _ _ hin with h' | h'
    · exact one_case l3 hs k3 e3 hb h3 t (by rw [obeys_app, h, h']; rfl)
    · exact one_case l4 hs k4 e4 hb h4 t (by rw [obeys_app, h, h']; rfl)
/-- what follows from c by what an operation itself waits for -/
def liftOk2 (md : Region.Mode) (ops : Array Oper) (c c' : List (Nat × Nat)) : Bool := c'.all fun p => c.contains p || match ops[p.1]? with
  | some o => o.after.toList.any fun e => Region.binds md e && c.contains (e.on, p.2)
  | none => false
def RespC (c : List (Nat × Nat)) (L : Array Bool) : Prop := ∀ p ∈ c, L.getD p.1 false = true → L.getD p.2 false = true
theorem up_set {L : Array Bool} (i k : Nat) (hk : L.getD k false = true) : (L.setIfInBounds i true).getD k false = true := by
  by_cases hik : i = k
  · subst hik
    have : i < L.size := by
      rcases Nat.lt_or_ge i L.size with h' | h'
      · exact h'
      · simp [Array.getElem?_eq_none h'] at hk
    simp [this]
  · rw [getD_set_ne false hik]; exact hk
theorem obeys_lift2 {c c' : List (Nat × Nat)} (h : liftOk2 md ops c c' = true) : ∀ (fuel t : Nat) (L : Array Bool), ListedOk md ops L → RespC c L → obeys c L (Region.linearise.go md ops fuel t L []) = true → obeys c' L (Region.linearise.go md ops fuel t L []) = true := by
  intro fuel
  induction fuel with
  | zero => intro t L _ _; simp [Region.linearise.go, obeys]
  | succ fuel ih =>
    intro t L hL hR ho
    simp only [Region.linearise.go] at ho ⊢
    split
    · rename_i i hi
      rw [hi] at ho
      simp only [] at ho
      have hri := List.mem_of_getElem? hi
      rw [linearise_go_acc, List.reverse_singleton, List.singleton_append] at ho ⊢
      simp only [obeys, Bool.and_eq_true] at ho ⊢
      obtain ⟨hm, ho⟩ := ho
      have hm2 := hm
      simp only [mayC, List.all_eq_true, Bool.or_eq_true, Bool.not_eq_true', beq_eq_false_iff_ne] at hm2
      refine ⟨?_, ih _ _ (listed_set hL hri) (fun p hp hl => ?_) ho⟩
      · simp only [mayC, List.all_eq_true, Bool.or_eq_true, Bool.not_eq_true', beq_eq_false_iff_ne]
        intro p hp
        by_cases hmp : i = p.1
        · right
          simp only [liftOk2, List.all_eq_true, Bool.or_eq_true, List.contains_iff_mem] at h
          rcases h p hp with h1 | h1
          · exact (hm2 p h1).resolve_left (fun k => k hmp)
          · obtain ⟨_, oi, hoi, hall⟩ := mem_ready.1 hri
            rw [← hmp, hoi] at h1
            simp only [List.any_eq_true, Bool.and_eq_true, List.contains_iff_mem] at h1
            obtain ⟨e, he, hb, he2⟩ := h1
            exact hR (e.on, p.2) he2 (hall e (by simpa using he) hb)
        · exact .inl hmp
      · by_cases hip : i = p.1
        · exact up_set _ _ ((hm2 p hp).resolve_left (fun k => k hip))
        · rw [getD_set_ne false hip] at hl
          exact up_set _ _ (hR p hp hl)
    · rfl
/-- **four orders for all**: r ahead of p, p an alloc, q its reader, j a call beside all three -/
theorem wp_serial10 (r p q j : Nat) (o1 o2 o3 o4 : List Nat) {id : Nat} {a : Act} {w : World} {l : List Oper} (l1 l2 l3 l4 : List Oper) (hm : P.follows .mixedOrders = true)
    (hB : (Region.noSelect l.toArray && decide (p ≠ j) && decide (q ≠ j) && decide (r ≠ j) && caseOk P l.toArray ([(j, r)] ++ [(j, q)]) [(j, r), (j, q), (j, p)] o1 && caseOk P l.toArray ([(j, r)] ++ ([(q, j)] ++ [(p, j)])) [(j, r), (q, j), (p, j)] o2 && caseOk P l.toArray ([(j, r)] ++ ([(q, j)] ++ [(j, p)])) [(j, r), (q, j), (j, p)] o3
      && liftOk2 .any l.toArray [(r, j)] [(r, j), (p, j)] && liftOk2 .any l.toArray [(r, j), (p, j)] [(r, j), (p, j), (q, j)] && caseOk P l.toArray [(r, j), (p, j), (q, j)] [(r, j), (p, j), (q, j)] o4) = true)
    (e1 : o1.filterMap (l.toArray[·]?) = l1) (e2 : o2.filterMap (l.toArray[·]?) = l2) (e3 : o3.filterMap (l.toArray[·]?) = l3) (e4 : o4.filterMap (l.toArray[·]?) = l4) (hb : NoBad Q)
    (h1 : wpList P l.toArray Q l1 a w.drew) (h2 : wpList P l.toArray Q l2 a w.drew) (h3 : wpList P l.toArray Q l3 a w.drew) (h4 : wpList P l.toArray Q l4 a w.drew) : (Code.region id l.toArray true).wp P Q a w := by
  simp only [Bool.and_eq_true, decide_eq_true_eq] at hB
  obtain ⟨⟨⟨⟨⟨⟨⟨⟨⟨hs, hpj⟩, hqj⟩, hrj⟩, k1⟩, k2⟩, k3⟩, k4a⟩, k4b⟩, k4⟩ := hB
  refine wp_region_draw fun t => ?_
  simp only [Region.schedule, hm, Bool.true_or, if_true]
  change wpOps P l.toArray Q (Region.linearise.go .any l.toArray l.toArray.size t (Array.replicate l.toArray.size false) []) a w.drew
  have hlt := lin_lt (md := .any) (ops := l.toArray) l.toArray.size t (Array.replicate l.toArray.size false) (by simp)
  have hin : ∀ i ∈ Region.linearise.go .any l.toArray l.toArray.size t (Array.replicate l.toArray.size false) [], i < (Array.replicate l.toArray.size false).size := fun i hi => by simpa using hlt i hi
  have hL0 : ListedOk .any l.toArray (Array.replicate l.toArray.size false) := by
    intro z oz _ hz
    simp only [Array.getD_eq_getD_getElem?, Array.getElem?_replicate] at hz
    split at hz <;> simp at hz
  have hR0 : ∀ c : List (Nat × Nat), RespC c (Array.replicate l.toArray.size false) := by
    intro c z _ hz
    simp only [Array.getD_eq_getD_getElem?, Array.getElem?_replicate] at hz
    split at hz <;> simp at hz
  rcases obeys_or (x := j) (y := r) (fun h => hrj h.symm) _ _ hin with h0 | h0
  · rcases obeys_or (x := j) (y := q) (fun h => hqj h.symm) _ _ hin with h | h
    · exact one_case l1 hs k1 e1 hb h1 t (by rw [obeys_app, h0, h]; rfl)
    · rcases obeys_or (x := p) (y := j) hpj _ _ hin with h' | h'
      · exact one_case l2 hs k2 e2 hb h2 t (by rw [obeys_app, obeys_app, h0, h, h']; rfl)
      · exact one_case l3 hs k3 e3 hb h3 t (by rw [obeys_app, obeys_app, h0, h, h']; rfl)
  · exact one_case l4 hs k4 e4 hb h4 t (obeys_lift2 k4b _ _ _ hL0 (hR0 _) (obeys_lift2 k4a _ _ _ hL0 (hR0 _) h0))
end
end S9
end Go.Proofs.Ytijmbpokglohbaa
