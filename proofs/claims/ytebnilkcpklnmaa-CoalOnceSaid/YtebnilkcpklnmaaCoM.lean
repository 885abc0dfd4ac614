/-
  A map from numbers to pointers: what it holds as a list of pairs, and the laws of a walk at its operations.
-/
import Derived.Test.YtebnilkcpklnmaaMem
import Derived.Maps.RangeWalk
import Derived.Maps.OwnOps
namespace Go.Proofs.Ytebnilkcpklnmaa
open Go.RowKit Go.Maps
set_option linter.unusedSimpArgs false
set_option linter.unusedVariables false
def RP : Value → Option (DataW Unit × List MemPlace)
  | .pointer none => some (.lit (.int .i64 (-1)), [])
  | .pointer (some ⟨g, 0, none⟩) => some (.lit (.int .i64 g), [])
  | _ => none
def mkP : Option Nat → Value
  | none => .pointer none
  | some g => .pointer (some ⟨g, 0, none⟩)
def litP : Option Nat → DataW Unit
  | none => .lit (.int .i64 (-1))
  | some g => .lit (.int .i64 g)
theorem RP_mk (c : Option Nat) : RP (mkP c) = some (litP c, []) := by cases c <;> rfl
theorem RP_inv {v : Value} {y : DataW Unit × List MemPlace} (h : RP v = some y) : ∃ c, v = mkP c := by
  unfold RP at h
  split at h
  · exact ⟨none, rfl⟩
  · exact ⟨some _, rfl⟩
  · cases h
theorem litP_inj {a b : Option Nat} (h : litP a = litP b) : a = b := by
  cases a <;> cases b <;> simp [litP] at h ⊢ <;> first | exact h | omega
def ent (p : Nat × Nat) : Lit × DataW Unit := (.int .i64 p.1, .lit (.int .i64 p.2))
def dm (M : List (Nat × Nat)) : DataW Unit := .map (M.map ent)
def isN (x : Int) (p : Nat × Nat) : Bool := decide ((p.1 : Int) = x)
def atN (M : List (Nat × Nat)) (x : Int) : Option Nat := (M.find? (isN x)).map (·.2)
theorem ent_same (x : Int) (p : Nat × Nat) : (ent p).1.sameKey (.int .i64 x) = isN x p := by simp [ent, Lit.sameKey, isN]
theorem dm_size (M : List (Nat × Nat)) : Maps.size (dm M) = M.length := by simp [dm, Maps.size]
theorem dm_has (M : List (Nat × Nat)) (x : Int) : Maps.has (dm M) (.int .i64 x) = M.any (isN x) := by
  simp only [dm, Maps.has, List.any_map]
  congr 1
  funext p
  exact ent_same x p
theorem find_ent (M : List (Nat × Nat)) (x : Int) : (M.map ent).find? (fun p => p.1.sameKey (.int .i64 x)) = (M.find? (isN x)).map ent := by
  induction M with
  | nil => rfl
  | cons p M ih =>
    rw [List.map_cons, List.find?_cons, List.find?_cons, ent_same]
    cases isN x p
    · exact ih
    · rfl
theorem dm_at (M : List (Nat × Nat)) (x : Int) (z : DataW Unit) : (dm M).atKey (.int .i64 x) z = (match atN M x with | some g => .lit (.int .i64 g) | none => z) := by
  simp only [dm, DataW.atKey, find_ent, atN]
  cases M.find? (isN x) <;> rfl
theorem dm_del (M : List (Nat × Nat)) (x : Int) : (dm M).del (.int .i64 x) = dm (M.filter fun p => !isN x p) := by
  simp only [dm, DataW.del, List.filter_map]
  congr 2
  apply List.filter_congr
  intro p _
  simp only [Function.comp, ent_same]
theorem ins_end {n g : Nat} : ∀ {M : List (Nat × Nat)}, (∀ p ∈ M, p.1 < n) → DataW.insert (ent (n, g)) (M.map ent) = (M ++ [(n, g)]).map ent
  | [], _ => rfl
  | p :: M, h => by
    have hp : (ent (n, g)).1.before (ent p).1 = false := by
      have := h p (List.mem_cons_self ..)
      simp [ent, Lit.before]; omega
    rw [List.map_cons, DataW.insert, hp]
    simp only [Bool.false_eq_true, if_false, List.cons_append, List.map_cons]
    rw [ins_end (fun q hq => h q (List.mem_cons_of_mem _ hq))]
theorem dm_put {M : List (Nat × Nat)} {n g : Nat} (h : ∀ p ∈ M, p.1 < n) : (dm M).put (.int .i64 n) (.lit (.int .i64 g)) = dm (M ++ [(n, g)]) := by
  have hf : (M.map ent).filter (fun p => !p.1.sameKey (.int .i64 n)) = M.map ent := by
    rw [List.filter_eq_self]
    intro a ha
    obtain ⟨p, hp, rfl⟩ := List.mem_map.1 ha
    have := h p hp
    rw [ent_same]
    simp [isN]; omega
  simp only [dm, DataW.put, hf]
  exact congrArg DataW.map (ins_end h)
theorem isN_lt {M : List (Nat × Nat)} {x : Int} {p : Nat × Nat} (h : M.find? (isN x) = some p) : p ∈ M ∧ (p.1 : Int) = x :=
  ⟨List.mem_of_find?_eq_some h, by have := List.find?_some h; simpa [isN] using this⟩

section
variable {P : Program} {w : World} {k t e : TypeId} {b : Nat} {M : List (Nat × Nat)}
def OwnsM (P : Program) (k : TypeId) (w : World) (b : Nat) (M : List (Nat × Nat)) : Prop := w.ownsMap P k RP b M.length (dm M)
theorem ownsM_of {n : Nat} {M' : List (Nat × Nat)} (h : w.ownsMap P k RP b n (dm M')) : OwnsM P k w b M' := by
  obtain ⟨es, clock, hb, F, _, hD⟩ := h
  refine ⟨es, clock, hb, F, ?_, hD⟩
  have e1 : Maps.size (DataW.map ((es.toList.map (Go.WideElems.rg P k RP)).foldr DataW.insert [])) = es.size := by simp [Maps.size, length_sorted]
  rw [← e1, ← hD, dm_size]
  exact Nat.le_refl _
theorem OwnsM.blk (h : OwnsM P k w b M) : ∃ es clock, w.heap[b]? = some (.map es clock) := by
  obtain ⟨es, clock, hb, _⟩ := h
  exact ⟨es, clock, hb⟩
theorem OwnsM.to {w' : World} (h : OwnsM P k w b M) (hb : w'.heap[b]? = w.heap[b]?) : OwnsM P k w' b M := by
  obtain ⟨es, clock, h1, r⟩ := h
  exact ⟨es, clock, hb.trans h1, r⟩
theorem OwnsM.lt (h : OwnsM P k w b M) : b < w.heap.size := World.ownsMap.lt h
theorem keyN (hk : P.underlying k = some (.int .i64)) {x : Int} (hx : (Lit.int .i64 x).wf = true) : keyOf P k (.int .i64 x) = some (.int .i64 x) := keyOf_int_mk hk hx

variable {ops : Array Oper} {rest : List Oper} {o : Oper} {a : Act} {Q : Exit → Act → World → Prop}
theorem look_run (hk : P.underlying k = some (.int .i64)) (ht : P.underlying t = some (.map k e)) (hz : (zeroValue e).run P w = .ok (.pointer none) w) (h : OwnsM P k w b M) {x : Int} (hx : (Lit.int .i64 x).wf = true) :
    (Instr.lookup t (.map (some b)) (.int .i64 x) false).run P w = .ok (mkP (atN M x)) w := by
  obtain ⟨v, ps, hrun, hv⟩ := World.ownsMap.lookup h (int_keyed hk) ht hz (zd := litP none) (zp := []) rfl (keyN hk hx)
  obtain ⟨c, rfl⟩ := RP_inv hv
  rw [RP_mk, dm_at] at hv
  injection hv with hv
  injection hv with hv _
  have : c = atN M x := litP_inj (by rw [hv]; cases atN M x <;> rfl)
  rw [hrun, this]
theorem wpList_look (w : World) (hg : o.guard = none) (m y : Operand) (t : TypeId) (hop : o.op = Op.lookup t m y false) (k e : TypeId) (hk : P.underlying k = some (.int .i64)) (ht : P.underlying t = some (.map k e)) (hz : (zeroValue e).run P w = .ok (.pointer none) w)
    (b : Nat) (M : List (Nat × Nat)) (hm : a.eval m = .map (some b)) (h : OwnsM P k w b M) (x : Int) (hy : a.eval y = .int .i64 x) (hx : (Lit.int .i64 x).wf = true) (c : Option Nat) (hc : atN M x = c)
    (hK : wpList P ops Q rest (a.put o.dst (mkP c)) w) : wpList P ops Q (o :: rest) a w := by
  refine wpList_plain hg fun K' hK' => ?_
  have hrun := look_run hk ht hz h hx
  rw [hc] at hrun
  unfold Oper.wp
  simp [execOp, hop, hm, hy, hrun, Result.andThen]
  exact hK' _ _ hK
theorem wpList_lenM (w : World) (hg : o.guard = none) (m : Operand) (t : TypeId) (hop : o.op = Op.call { callee := Callee.builtin Builtin.len, args := #[m], argTypes := #[t] }) (k e : TypeId) (ht : P.underlying t = some (.map k e))
    (b : Nat) (M : List (Nat × Nat)) (hm : a.eval m = .map (some b)) (h : OwnsM P k w b M) (n : Int) (hn : (M.length : Int) = n) (hK : wpList P ops Q rest (a.put o.dst (.int .i64 n)) w) : wpList P ops Q (o :: rest) a w := by
  refine wpList_len_own w hg m t hop k e ht RP b M.length (dm M) hm h ?_
  rw [dm_size, hn]
  exact hK
theorem wpList_delM (w : World) (hg : o.guard = none) (m y : Operand) (t k : TypeId) (hop : o.op = Op.call { callee := Callee.builtin Builtin.delete, args := #[m, y], argTypes := #[t, k] }) (e : TypeId) (hk : P.underlying k = some (.int .i64)) (ht : P.underlying t = some (.map k e))
    (b : Nat) (M : List (Nat × Nat)) (hm : a.eval m = .map (some b)) (h : OwnsM P k w b M) (x : Int) (hy : a.eval y = .int .i64 x) (hx : (Lit.int .i64 x).wf = true)
    (hK : ∀ w', OwnsM P k w' b (M.filter fun p => !isN x p) → w.mapTurned w' b → wpList P ops Q rest (a.put o.dst (.tuple #[])) w') : wpList P ops Q (o :: rest) a w := by
  refine wpList_delete_own w hg m y t k hop e (int_keyed hk) ht RP b M.length (dm M) hm h _ _ hy (keyN hk hx) fun w' h1 h2 => hK w' ?_ h2
  rw [dm_del] at h1
  exact ownsM_of h1
theorem wpList_putM (w : World) (hg : o.guard = none) (m y v : Operand) (t : TypeId) (hop : o.op = Op.mapUpdate t m y v) (k e : TypeId) (hk : P.underlying k = some (.int .i64)) (ht : P.underlying t = some (.map k e))
    (b : Nat) (M : List (Nat × Nat)) (hm : a.eval m = .map (some b)) (h : OwnsM P k w b M) (hl : M.length < maxLen) (n g : Nat) (x : Int) (hy : a.eval y = .int .i64 x) (hxn : x = (n : Int)) (hx : (Lit.int .i64 n).wf = true) (hv : a.eval v = .pointer (some ⟨g, 0, none⟩)) (hM : ∀ p ∈ M, p.1 < n)
    (hK : ∀ w', OwnsM P k w' b (M ++ [(n, g)]) → w.mapTurned w' b → wpList P ops Q rest (a.put o.dst undef) w') : wpList P ops Q (o :: rest) a w := by
  subst hxn
  refine wpList_mapUpdate_in w hg m y v t hop k e (int_keyed hk) ht RP b M.length (dm M) hm h hl _ _ _ hy hv (keyN hk hx) (litP (some g)) [] rfl fun w' h1 h2 => hK w' ?_ h2
  have : (dm M).put (.int .i64 n) (litP (some g)) = dm (M ++ [(n, g)]) := dm_put hM
  rw [this] at h1
  exact ownsM_of h1
/-- ranging over the map: the loop's state -/
def RangesM (P : Program) (k : TypeId) (w : World) (b r : Nat) (M : List (Nat × Nat)) (left : Lit → Bool) (cnt : Nat) : Prop := w.ranges P k RP b r M.length (dm M) left cnt
theorem RangesM.drew {r : Nat} {left : Lit → Bool} {cnt : Nat} (h : RangesM P k w b r M left cnt) : RangesM P k w.drew b r M left cnt := h
theorem wpList_rangeM (w : World) (hg : o.guard = none) (m : Operand) (t : TypeId) (hop : o.op = Op.range t m) (k e : TypeId) (hk : P.underlying k = some (.int .i64)) (ht : P.underlying t = some (.map k e)) (b : Nat) (M : List (Nat × Nat)) (hm : a.eval m = .map (some b)) (h : OwnsM P k w b M)
    (hK : ∀ w' r, r = w.heap.size → RangesM P k w' b r M (Maps.has (dm M)) M.length → w.grownBy w' none → w'.heap.size = w.heap.size + 1 → wpList P ops Q rest (a.put o.dst (.pointer (some ⟨r, 0, none⟩))) w') : wpList P ops Q (o :: rest) a w := by
  refine wpList_range_own w hg m t hop k e (int_keyed hk) ht RP b M.length (dm M) hm h fun w' h1 h2 h3 => hK w' _ rfl ?_ h2 h3
  rw [dm_size] at h1
  exact h1
theorem wpList_nextM (w : World) (hg : o.guard = none) (it : Operand) (hop : o.op = Op.next it false) (k : TypeId) (hk : P.underlying k = some (.int .i64)) (b r : Nat) (M : List (Nat × Nat)) (left : Lit → Bool) (cnt : Nat)
    (hit : a.eval it = .pointer (some ⟨r, 0, none⟩)) (h : RangesM P k w b r M left cnt) (hh : ∀ kl, left kl = true → Maps.has (dm M) kl = true)
    (hDone : cnt = 0 → (∀ kl, left kl = false) → wpList P ops Q rest (a.put o.dst (.tuple #[.bool false])) w)
    (hMore : ∀ (p : Nat × Nat) (w' : World) (cnt' : Nat), p ∈ M → left (.int .i64 p.1) = true → RangesM P k w' b r M (fun z => left z && !z.sameKey (.int .i64 p.1)) cnt' → cnt' < cnt → w.grownBy w' (some r) → w'.heap.size = w.heap.size →
      (Instr.entry (.pointer (some ⟨r, 0, none⟩))).run P w' = .ok (.tuple #[.int .i64 p.1, .pointer (some ⟨p.2, 0, none⟩)]) w' → wpList P ops Q rest (a.put o.dst (.tuple #[.bool true, .int .i64 p.1, .pointer (some ⟨p.2, 0, none⟩)])) w') :
    wpList P ops Q (o :: rest) a w := by
  refine wpList_next_ranges w hg it hop k (int_keyed hk) RP (Value.int .i64) mkP (fun key kl hkey => by obtain ⟨x, rfl, _⟩ := keyOf_int_inv hk hkey; exact ⟨x, rfl⟩) (fun v y hv => RP_inv hv) b r M.length (dm M) left cnt hit h hDone
    fun x c kl y w' cnt' hkey hlk hv hat hrg hlt hgr hsz hen => ?_
  obtain ⟨x', ex, rfl, hwx⟩ := keyOf_int_inv hk hkey
  cases ex
  have hhas := hh _ hlk
  rw [dm_has] at hhas
  cases hf : M.find? (isN x) with
  | none => 
    rw [List.find?_eq_none] at hf
    obtain ⟨p, hp, hpx⟩ := List.any_eq_true.1 hhas
    exact absurd hpx (by simpa using hf p hp)
  | some p =>
    obtain ⟨hp, hpx⟩ := isN_lt hf
    have h1 := hat (litP none)
    rw [dm_at, atN, hf] at h1
    rw [RP_mk] at hv
    injection hv with hv
    have : c = some p.2 := litP_inj (by rw [show litP c = y.1 by rw [← hv], ← h1]; rfl)
    subst this
    subst hpx
    exact hMore p w' cnt' hp hlk hrg hlt hgr hsz hen
theorem wpList_nextT {α : Type} (T : List α) (f : α → Nat × Nat) (w : World) (hg : o.guard = none) (it : Operand) (hop : o.op = Op.next it false) (k : TypeId) (hk : P.underlying k = some (.int .i64)) (b r : Nat) (left : Lit → Bool) (cnt : Nat)
    (hit : a.eval it = .pointer (some ⟨r, 0, none⟩)) (h : RangesM P k w b r (T.map f) left cnt) (hh : ∀ kl, left kl = true → Maps.has (dm (T.map f)) kl = true)
    (hDone : cnt = 0 → (∀ kl, left kl = false) → wpList P ops Q rest (a.put o.dst (.tuple #[.bool false])) w)
    (hMore : ∀ (m : α) (w' : World) (cnt' : Nat), m ∈ T → left (.int .i64 (f m).1) = true → RangesM P k w' b r (T.map f) (fun z => left z && !z.sameKey (.int .i64 (f m).1)) cnt' → cnt' < cnt → w.grownBy w' (some r) → w'.heap.size = w.heap.size →
      (Instr.entry (.pointer (some ⟨r, 0, none⟩))).run P w' = .ok (.tuple #[.int .i64 (f m).1, .pointer (some ⟨(f m).2, 0, none⟩)]) w' → wpList P ops Q rest (a.put o.dst (.tuple #[.bool true, .int .i64 (f m).1, .pointer (some ⟨(f m).2, 0, none⟩)])) w') :
    wpList P ops Q (o :: rest) a w := by
  refine wpList_nextM w hg it hop k hk b r (T.map f) left cnt hit h hh hDone fun p w' cnt' hp => ?_
  obtain ⟨m, hm, rfl⟩ := List.mem_map.1 hp
  exact hMore m w' cnt' hm
end
end Go.Proofs.Ytebnilkcpklnmaa
