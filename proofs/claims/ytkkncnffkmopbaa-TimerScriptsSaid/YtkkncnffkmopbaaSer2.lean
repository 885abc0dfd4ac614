/-
  A region that draws, with two operations that may come in either order (a call and a load beside it): walked twice, once in each order.
-/
import Derived.Test.YtkkncnffkmopbaaSer
namespace Go.Proofs.Ytkkncnffkmopbaa
set_option linter.unusedSimpArgs false
set_option linter.unusedVariables false

section
variable {P : Program} {md : Region.Mode} {ops : Array Oper} {Q : Exit → Act → World → Prop}
/-- may m come, by the rule 'each x behind its y'? -/
def mayC (c : List (Nat × Nat)) (L : Array Bool) (m : Nat) : Bool := c.all fun p => !(m == p.1) || L.getD p.2 false
theorem mayC_mono {c : List (Nat × Nat)} {L : Array Bool} {m : Nat} (j : Nat) (h : mayC c L m = true) : mayC c (L.setIfInBounds j true) m = true := by
  simp only [mayC, List.all_eq_true] at h ⊢
  intro p hp
  have := h p hp
  simp only [Bool.or_eq_true] at this ⊢
  refine orMap this id fun h1 => ?_
  by_cases hj : j = p.2
  · subst hj
    have : p.2 < L.size := by
      rcases Nat.lt_or_ge p.2 L.size with h' | h'
      · exact h'
      · simp [Array.getElem?_eq_none h'] at h1
    simp [this]
  · rw [getD_set_ne false hj]; exact h1
def wpAnyC (P : Program) (md : Region.Mode) (ops : Array Oper) (Q : Exit → Act → World → Prop) (c : List (Nat × Nat)) : Nat → Array Bool → Act → World → Prop
  | 0, listed, a, w => Region.ready md ops listed = [] ∧ Q .normal a w
  | fuel + 1, listed, a, w =>
    (Region.ready md ops listed = [] → Q .normal a w) ∧
    ∀ i ∈ Region.ready md ops listed, mayC c listed i = true → wpOp P ops Q i (wpAnyC P md ops Q c fuel (listed.setIfInBounds i true)) a w
/-- j can't come as long as i has not -/
def held (c : List (Nat × Nat)) (i j : Nat) : Bool := c.any fun p => p.1 == j && p.2 == i
theorem held_no {c : List (Nat × Nat)} {i j : Nat} {L : Array Bool} (hu : L.getD i true = false) (h : mayC c L j = true) : held c i j = false := by
  cases hh : held c i j with
  | false => rfl
  | true =>
    simp only [held, List.any_eq_true, Bool.and_eq_true, beq_iff_eq] at hh
    obtain ⟨p, hp, rfl, rfl⟩ := hh
    simp only [mayC, List.all_eq_true] at h
    have := h p hp
    simp only [beq_self_eq_true, Bool.not_true, Bool.false_or] at this
    rcases Nat.lt_or_ge p.2 L.size with h' | h'
    · simp [h'] at hu this; rw [hu] at this; cases this
    · simp [Array.getElem?_eq_none h'] at this
variable {cc : List (Nat × Nat)}
theorem wpAnyC_rd (hb : NoBad Q) {C : World → Prop} (hC : ∀ u u', C u → Ext u u' → C u') {i : Nat} {oi : Oper} {v : Value} {d : Nat → Bool} (hi : ops[i]? = some oi)
    (hsel : ∀ (j : Nat) (o : Oper) cs b, ops[j]? = some o → o.op ≠ .select cs b) (hd : Waits md ops i d) :
    ∀ (fuel : Nat) (listed : Array Bool) (a : Act) (w : World), (∀ j, d j = true → listed.getD j false = false) → (∀ j, listed.getD j true = false → j ≠ i → d j = false → held cc i j = false → ∀ oj, ops[j]? = some oj → oi.apart ops oj = true ∧ ((∀ u, C u) ∨ ∀ ρ, MeekEx P (execOp ρ oj))) →
      i ∈ Region.ready md ops listed → mayC cc listed i = true → C w → YieldsC P ops C oi v a →
      wpAnyC P md ops Q cc fuel (listed.setIfInBounds i true) (a.put oi.dst v) w → wpAnyC P md ops Q cc (fuel + 1) listed a w := by
  intro fuel
  induction fuel with
  | zero =>
    intro listed a w _ _ hr hmi hCw hy H
    refine ⟨fun h => (by rw [h] at hr; cases hr), fun j hj hcj => ?_⟩
    by_cases hji : j = i
    · subst hji; exact hy.wpOp hi hCw H
    · have := ready_mono hj hji
      rw [H.1] at this
      cases this
  | succ fuel ih =>
    intro listed a w hinv hf hr hmi hCw hy H
    refine ⟨fun h => (by rw [h] at hr; cases hr), fun j hj hcj => ?_⟩
    by_cases hji : j = i
    · subst hji; exact hy.wpOp hi hCw H
    · have h1 := H.2 j (ready_mono hj hji) (mayC_mono _ hcj)
      obtain ⟨hjun, oj, hoj, hall⟩ := mem_ready.1 hj
      have hdj := not_waits hd (mem_ready.1 hr).1 hinv hj
      obtain ⟨hap, hm⟩ := hf j hjun hji hdj (held_no (mem_ready.1 hr).1 hcj) oj hoj
      have h2 := wpOp_putC hb hC hoj hap (fun cs b => hsel i oi cs b hi) (fun cs b => hsel j oj cs b hoj) hCw (orMap hm id fun h => h _) hy h1
      refine wpOp_mono (fun a' w' h3 => ih (listed.setIfInBounds j true) a' w' (inv_set hinv hdj) (fun k hk hki hdk hhk ok hok => ?_) (ready_mono hr (Ne.symm hji)) (mayC_mono _ hmi) h3.1 h3.2.1 ?_) h2
      · by_cases hjk : j = k
        · subst hjk; exact hf j hjun hki hdk hhk ok hok
        · rw [getD_set_ne true hjk] at hk; exact hf k hk hki hdk hhk ok hok
      · rw [Array.setIfInBounds_comm _ _ hji]
        exact h3.2.2
theorem wpAnyC_eff (hb : NoBad Q) {i : Nat} {oi : Oper} {d : Nat → Bool} (hi : ops[i]? = some oi)
    (hsel : ∀ (j : Nat) (o : Oper) cs b, ops[j]? = some o → o.op ≠ .select cs b) (hd : Waits md ops i d) :
    ∀ (fuel : Nat) (listed : Array Bool) (a : Act) (w : World), (∀ j, d j = true → listed.getD j false = false) → (∀ j, listed.getD j true = false → j ≠ i → d j = false → held cc i j = false → ∀ oj, ops[j]? = some oj → oi.apart ops oj = true ∧ ∀ ρ, PureEx P (execOp ρ oj)) →
      i ∈ Region.ready md ops listed → mayC cc listed i = true →
      wpOp P ops Q i (wpAnyC P md ops Q cc fuel (listed.setIfInBounds i true)) a w → wpAnyC P md ops Q cc (fuel + 1) listed a w := by
  intro fuel
  induction fuel with
  | zero =>
    intro listed a w _ _ hr hmi H
    refine ⟨fun h => (by rw [h] at hr; cases hr), fun j hj hcj => ?_⟩
    by_cases hji : j = i
    · subst hji; exact H
    · obtain ⟨a1, w1, h1⟩ := wpOp_some hb hi H
      have := ready_mono hj hji
      rw [h1.1] at this
      cases this
  | succ fuel ih =>
    intro listed a w hinv hf hr hmi H
    refine ⟨fun h => (by rw [h] at hr; cases hr), fun j hj hcj => ?_⟩
    by_cases hji : j = i
    · subst hji; exact H
    · obtain ⟨hjun, oj, hoj, hall⟩ := mem_ready.1 hj
      have hdj := not_waits hd (mem_ready.1 hr).1 hinv hj
      obtain ⟨hap, hpu⟩ := hf j hjun hji hdj (held_no (mem_ready.1 hr).1 hcj) oj hoj
      obtain ⟨p1, p2, p3⟩ := Oper.apart_spec hap
      have H' := wpOp_tmps hb hi H
      have hsame : ∀ a1 : Act, (∃ v, a1.tmps = (a.put oi.dst v).tmps) → execOp a1.eval oj = execOp a.eval oj ∧ Region.wanted oj (yielded ops a1.tmps) = Region.wanted oj (yielded ops a.tmps) := by
        rintro a1 ⟨v, hv⟩
        have he : a1.eval = (a.put oi.dst v).eval := by funext x; cases x <;> simp only [Act.eval, hv]
        rw [he, hv]
        exact ⟨execOp_put oj (fun cs b => hsel j oj cs b hoj) a oi.dst v p1, wanted_put oj a oi.dst v p1⟩
      obtain ⟨a1, w1, h1, ht⟩ := wpOp_some hb hi H'
      obtain ⟨u, hy1, _⟩ := wpOp_pure hb hoj (hpu _) (h1.2 j (ready_mono hj hji) (mayC_mono _ hcj))
      have hy : YieldsC P ops (fun _ => True) oj u a := hy1.of_same (hsame a1 ht).1.symm (hsame a1 ht).2.symm
      refine hy.wpOp hoj trivial ?_
      refine ih (listed.setIfInBounds j true) (a.put oj.dst u) w (inv_set hinv hdj) (fun k hk hki hdk hhk ok hok => ?_) (ready_mono hr (Ne.symm hji)) (mayC_mono _ hmi) ?_
      · by_cases hjk : j = k
        · subst hjk; exact hf j hjun hki hdk hhk ok hok
        · rw [getD_set_ne true hjk] at hk; exact hf k hk hki hdk hhk ok hok
      · refine wpOp_back hb hi hap (fun cs b => hsel i oi cs b hi) (wpOp_mono (fun a2 w2 ⟨h2, ht2⟩ => ?_) H')
        obtain ⟨u', hy2, h3⟩ := wpOp_pure hb hoj (hpu _) (h2.2 j (ready_mono hj hji) (mayC_mono _ hcj))
        have hy2' : YieldsC P ops (fun _ => True) oj u' a := hy2.of_same (hsame a2 ht2).1.symm (hsame a2 ht2).2.symm
        have huu : u' = u := by
          rcases hy with ⟨hw, hv⟩ | ⟨hw, rfl⟩ <;> rcases hy2' with ⟨hw', hv'⟩ | ⟨hw', rfl⟩
          · have := (hv w trivial).symm.trans (hv' w trivial); simp only [Result.ok.injEq, Next.value.injEq, and_true] at this; exact this.symm
          · rw [hw] at hw'; cases hw'
          · rw [hw] at hw'; cases hw'
          · rfl
        rw [huu, Array.setIfInBounds_comm _ _ (Ne.symm hji)] at h3
        exact h3
/-- operation k may be taken first -/
def freeC (P : Program) (md : Region.Mode) (ops : Array Oper) (c : List (Nat × Nat)) (listed : Array Bool) (k : Nat) : Bool :=
  match ops[k]? with
  | none => false
  | some ok =>
    let d := waitsFor md ops k
    waitsOk md ops k d && (d.length == ops.size) && (List.range ops.size).all (fun j => !d.getD j false || !listed.getD j false) &&
    (List.range ops.size).all fun j => listed.getD j true || j == k || d.getD j false || held c k j || match ops[j]? with
      | some oj => beside P ops ok oj
      | none => true
def serialC (P : Program) (md : Region.Mode) (ops : Array Oper) (c : List (Nat × Nat)) : List Nat → Array Bool → Bool
  | [], listed => (Region.ready md ops listed).isEmpty
  | k :: ord, listed => (Region.ready md ops listed).contains k && mayC c listed k && freeC P md ops c listed k && serialC P md ops c ord (listed.setIfInBounds k true)
theorem serialC_lex (hb : NoBad Q) (hs : Region.noSelect ops = true) : ∀ (ord : List Nat) (listed : Array Bool) (a : Act) (w : World),
    serialC P md ops cc ord listed = true → wpOps P ops Q ord a w → wpAnyC P md ops Q cc ord.length listed a w
  | [], _, _, _, hB, h => ⟨by simpa [serialC] using hB, by simpa [wpOps] using h⟩
  | k :: ord, listed, a, w, hB, h => by
    simp only [serialC, Bool.and_eq_true] at hB
    obtain ⟨⟨⟨hr, hm⟩, hf⟩, hB'⟩ := hB
    have hready : k ∈ Region.ready md ops listed := by simpa using hr
    obtain ⟨hun, o, h0, _⟩ := mem_ready.1 hready
    simp only [freeC, h0, Bool.and_eq_true, List.all_eq_true, List.mem_range, beq_iff_eq] at hf
    obtain ⟨⟨⟨hw1, hlen⟩, hw2⟩, hw3⟩ := hf
    have hd := waitsOk_spec hw1
    have hinv : ∀ j, (fun j => (waitsFor md ops k).getD j false) j = true → listed.getD j false = false := fun j hj => by
      rcases Nat.lt_or_ge j ops.size with h' | h'
      · have := hw2 j h'
        simp only [hj, Bool.not_true, Bool.false_or] at this
        simpa using this
      · have hj' : (waitsFor md ops k).getD j false = true := hj
        rw [List.getD, List.getElem?_eq_none (by omega)] at hj'
        cases hj'
    have hfree : ∀ j, listed.getD j true = false → j ≠ k → (fun j => (waitsFor md ops k).getD j false) j = false → held cc k j = false → ∀ oj, ops[j]? = some oj → beside P ops o oj = true := fun j hj hjk hdj hh oj hoj => by
      have h1 := hw3 j (Array.getElem?_eq_some_iff.1 hoj).1
      have hdj' : (waitsFor md ops k).getD j false = false := hdj
      simp only [hoj, hj, hdj', hh, Bool.or_false, Bool.false_or, Bool.or_eq_true, beq_iff_eq] at h1
      exact h1.resolve_left hjk
    have H : wpOp P ops Q k (wpAnyC P md ops Q cc ord.length (listed.setIfInBounds k true)) a w := by
      rw [wpOps_cons] at h
      exact wpOp_mono (fun a' w' h' => serialC_lex hb hs ord _ a' w' hB' h') h
    simp only [beside, Bool.and_eq_true, Bool.or_eq_true] at hfree
    by_cases hp : pureOp P o.op = true
    · obtain ⟨v, hy, hK⟩ := wpOp_pure hb h0 (pureEx_op _ _ hp) H
      exact wpAnyC_rd hb (C := fun _ => True) (fun _ _ _ _ => trivial) h0 (Region.noSelect_spec hs) hd _ _ _ _ hinv
        (fun j hj hjk hdj hh oj hoj => ⟨(hfree j hj hjk hdj hh oj hoj).1, .inl fun _ => trivial⟩) hready hm trivial hy hK
    · by_cases hrd : readOp P o.op = true
      · obtain ⟨v, hy, hK⟩ := wpOp_rd hb h0 (rdEx_op _ _ hrd) H
        exact wpAnyC_rd hb (C := Ext w) (fun _ _ h k => h.trans k) h0 (Region.noSelect_spec hs) hd _ _ _ _ hinv
          (fun j hj hjk hdj hh oj hoj => ⟨(hfree j hj hjk hdj hh oj hoj).1, .inr fun ρ => by
            rcases (hfree j hj hjk hdj hh oj hoj).2 with (h1 | h1) | h1
            · exact absurd h1 hp
            · exact (pureEx_op _ _ h1).rd.meek
            · exact meekEx_op _ _ h1.2⟩) hready hm (Ext.refl _) hy hK
      · exact wpAnyC_eff hb h0 (Region.noSelect_spec hs) hd _ _ _ _ hinv
          (fun j hj hjk hdj hh oj hoj => ⟨(hfree j hj hjk hdj hh oj hoj).1, fun ρ => by
            rcases (hfree j hj hjk hdj hh oj hoj).2 with (h1 | h1) | h1
            · exact absurd h1 hp
            · exact pureEx_op _ _ h1
            · exact absurd h1.1 hrd⟩) hready hm H
/-- does the order bring y ahead of x? -/
def obeys (c : List (Nat × Nat)) (L : Array Bool) : List Nat → Bool
  | [] => true
  | i :: rest => mayC c L i && obeys c (L.setIfInBounds i true) rest
theorem wpAnyC_sound : ∀ (fuel t : Nat) (listed : Array Bool) (a : Act) (w : World), obeys cc listed (Region.linearise.go md ops fuel t listed []) = true → wpAnyC P md ops Q cc fuel listed a w →
    wpOps P ops Q (Region.linearise.go md ops fuel t listed []) a w := by
  intro fuel
  induction fuel with
  | zero => intro t listed a w _ h; simpa [Region.linearise.go, wpOps] using h.2
  | succ fuel ih =>
    intro t listed a w ho h
    obtain ⟨h₀, h₁⟩ := h
    simp only [Region.linearise.go] at ho ⊢
    change obeys cc listed (match (Region.ready md ops listed)[t % (Region.ready md ops listed).length]? with
      | some i => Region.linearise.go md ops fuel (t / (Region.ready md ops listed).length) (listed.setIfInBounds i true) [i]
      | none => [].reverse) = true at ho
    change wpOps P ops Q (match (Region.ready md ops listed)[t % (Region.ready md ops listed).length]? with
      | some i => Region.linearise.go md ops fuel (t / (Region.ready md ops listed).length) (listed.setIfInBounds i true) [i]
      | none => [].reverse) a w
    cases hi : (Region.ready md ops listed)[t % (Region.ready md ops listed).length]? with
    | none =>
      have hnil : Region.ready md ops listed = [] := by
        cases hr : Region.ready md ops listed with
        | nil => rfl
        | cons x xs =>
          rw [hr] at hi
          have hlt : t % (x :: xs).length < (x :: xs).length := Nat.mod_lt _ (by simp)
          simp at hi
          simp at hlt
          omega
      simpa [wpOps] using h₀ hnil
    | some i =>
      rw [hi] at ho
      simp only [] at ho ⊢
      rw [linearise_go_acc, List.reverse_singleton, List.singleton_append] at ho ⊢
      simp only [obeys, Bool.and_eq_true] at ho
      rw [wpOps_cons]
      exact wpOp_mono (fun a w => ih _ _ a w ho.2) (h₁ i (List.mem_of_getElem? hi) ho.1)
/-- every order brings one of two ahead of the other -/
theorem obeys_or {x y : Nat} (hxy : x ≠ y) : ∀ (l : List Nat) (L : Array Bool), (∀ i ∈ l, i < L.size) → obeys [(x, y)] L l = true ∨ obeys [(y, x)] L l = true := by
  intro l
  induction l with
  | nil => intro L _; exact .inl rfl
  | cons i l ih =>
    intro L hL
    have hsz : ∀ k ∈ l, k < (L.setIfInBounds i true).size := fun k hk => by simpa using hL k (by simp [hk])
    have hi : i < L.size := hL i (by simp)
    -- once y is listed the rule (x, y) holds for good
    have done : ∀ (p q : Nat) (l : List Nat) (L : Array Bool), L.getD q false = true → obeys [(p, q)] L l = true := by
      intro p q l
      induction l with
      | nil => intro L _; rfl
      | cons j l ih2 =>
        intro L hq
        simp only [obeys, mayC, List.all_cons, List.all_nil, Bool.and_true, hq, Bool.or_true, Bool.true_and]
        refine ih2 _ ?_
        by_cases hj : j = q
        · subst hj
          have : j < L.size := by
            rcases Nat.lt_or_ge j L.size with h' | h'
            · exact h'
            · simp [Array.getElem?_eq_none h'] at hq
          simp [this]
        · rw [getD_set_ne false hj]; exact hq
    by_cases hx : i = x
    · subst hx
      right
      have h1 : mayC [(y, i)] L i = true := by simp [mayC, hxy]
      simp only [obeys, h1, Bool.true_and]
      exact done _ _ _ _ (by simp [hi])
    · by_cases hy : i = y
      · subst hy
        left
        have h1 : mayC [(x, i)] L i = true := by simp [mayC, hx]
        simp only [obeys, h1, Bool.true_and]
        exact done _ _ _ _ (by simp [hi])
      · have h1 : mayC [(x, y)] L i = true := by simp [mayC, hx]
        have h2 : mayC [(y, x)] L i = true := by simp [mayC, hy]
        simp only [obeys, h1, h2, Bool.true_and]
        exact ih _ hsz
theorem lin_lt : ∀ (fuel t : Nat) (listed : Array Bool), listed.size = ops.size → ∀ i ∈ Region.linearise.go md ops fuel t listed [], i < ops.size := by
  intro fuel
  induction fuel with
  | zero => intro t listed _ i hi; simp [Region.linearise.go] at hi
  | succ fuel ih =>
    intro t listed hsz i hi
    simp only [Region.linearise.go] at hi
    split at hi
    · rename_i k hk
      rw [linearise_go_acc, List.reverse_singleton, List.singleton_append] at hi
      rcases List.mem_cons.1 hi with rfl | h
      · have := List.mem_of_getElem? hk
        simp only [List.mem_filter, List.mem_range] at this
        exact this.1
      · exact ih _ _ (by simpa using hsz) i h
    · simp at hi
def serial2 (P : Program) (ops : Array Oper) (k j : Nat) (ord : List Nat) : Bool :=
  Region.noSelect ops && decide (k < j) && serialC P .any ops [(j, k)] (List.range ops.size) (Array.replicate ops.size false) && serialC P .any ops [(k, j)] ord (Array.replicate ops.size false)
  && ord.all (fun i => decide (i < ops.size)) && ord.length == ops.size
theorem wpOps_perm (ord : List Nat) : ∀ (l : List Oper), (∀ i : Nat, l[i]? = (ord[i]?).bind (ops[·]?)) → l.length = ord.length → ∀ a w, wpList P ops Q l a w → wpOps P ops Q ord a w := by
  induction ord with
  | nil =>
    intro l _ hlen a w h
    obtain rfl : l = [] := List.eq_nil_of_length_eq_zero (by simpa using hlen)
    simpa [wpOps, wpList] using h
  | cons k ord ih =>
    intro l hl hlen a w h
    match l, hlen with
    | o :: l, hlen =>
      have h0 : ops[k]? = some o := by simpa using (hl 0).symm
      rw [wpOps_cons]
      unfold Go.wpOp
      simp only [h0]
      have hih := ih l (fun i => by simpa using hl (i + 1)) (by simpa using hlen)
      simp only [wpList] at h
      split
      · rename_i hw
        rw [if_pos hw] at h
        exact orMap h (Oper.wp_mono hih) id
      · rename_i hw
        rw [if_neg hw] at h
        exact hih _ _ h
theorem filterMap_all {α β : Type} (f : α → Option β) (g : α → β) : ∀ (l : List α), (∀ i ∈ l, f i = some (g i)) → l.filterMap f = l.map g
  | [], _ => rfl
  | x :: l, h => by
    rw [List.filterMap_cons, h x (by simp), List.map_cons, filterMap_all f g l (fun i hi => h i (by simp [hi]))]
/-- **two orders for all** -/
theorem wp_serial2 (k j : Nat) (ord : List Nat) {id : Nat} {a : Act} {w : World} {l : List Oper} (lB : List Oper) (hm : P.follows .mixedOrders = true) (hB : serial2 P l.toArray k j ord = true) (hlB : ord.filterMap (l.toArray[·]?) = lB) (hb : NoBad Q)
    (h1 : wpList P l.toArray Q l a w.drew) (h2 : wpList P l.toArray Q lB a w.drew) : (Code.region id l.toArray true).wp P Q a w := by
  simp only [serial2, Bool.and_eq_true, decide_eq_true_eq, beq_iff_eq] at hB
  obtain ⟨⟨⟨⟨⟨hs, hkj⟩, hA⟩, hBB⟩, hin⟩, hlen⟩ := hB
  refine wp_region_draw fun t => ?_
  simp only [Region.schedule, hm, Bool.true_or, if_true]
  change wpOps P l.toArray Q (Region.linearise.go .any l.toArray l.toArray.size t (Array.replicate l.toArray.size false) []) a w.drew
  have hlt := lin_lt (md := .any) (ops := l.toArray) l.toArray.size t (Array.replicate l.toArray.size false) (by simp)
  rcases obeys_or (x := j) (y := k) (by omega) (Region.linearise.go .any l.toArray l.toArray.size t (Array.replicate l.toArray.size false) []) (Array.replicate l.toArray.size false) (fun i hi => by simpa using hlt i hi) with h | h
  · have h1' : wpOps P l.toArray Q (List.range l.toArray.size) a w.drew := by
      have := wpOps_eq_wpList (P := P) (ops := l.toArray) (Q := Q) l 0 (fun j => by simp)
      rw [List.range_eq_range']
      simpa using (congrFun (congrFun this a) w.drew).mpr h1
    have := serialC_lex hb hs _ _ a w.drew hA h1'
    rw [List.length_range] at this
    exact wpAnyC_sound _ t _ _ _ h this
  · have hall : ∀ i ∈ ord, i < l.toArray.size := fun i hi => by simpa using List.all_eq_true.1 hin i hi
    have hmap : lB = ord.map fun i => (l.toArray[i]?).getD ⟨none, .move (.tmp 0), 0, "", #[], none⟩ := by
      rw [← hlB]
      exact filterMap_all _ _ _ (fun i hi => by simp [Array.getElem?_eq_getElem (hall i hi)])
    have h2' : wpOps P l.toArray Q ord a w.drew := by
      refine wpOps_perm _ lB (fun i => ?_) (by rw [hmap, List.length_map]) a w.drew h2
      rw [hmap, List.getElem?_map]
      cases hi : ord[i]? with
      | none => rfl
      | some m =>
        have hm' : m < l.length := by simpa using hall m (List.mem_of_getElem? hi)
        simp [hm']
    have := serialC_lex hb hs _ _ a w.drew hBB h2'
    rw [hlen] at this
    exact wpAnyC_sound _ t _ _ _ h this
end
end Go.Proofs.Ytkkncnffkmopbaa
