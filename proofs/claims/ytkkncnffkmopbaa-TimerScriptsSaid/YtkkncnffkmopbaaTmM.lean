/-
  A map from texts to numbers: what it holds as a list of timers, and the laws of a walk at its operations.
-/
import Derived.Test.YtkkncnffkmopbaaMem
import Derived.Test.YtkkncnffkmopbaaChecked
import Derived.Test.YtkkncnffkmopbaaTmP
import Derived.Maps.RangeWalk
import Derived.Maps.OwnOps
import Derived.Maps.OwnSet
import Derived.Sort.KeysCollected
import Derived.StringKeys
namespace Go.Proofs.Ytkkncnffkmopbaa
open Go.RowKit Go.Maps
set_option linter.unusedSimpArgs false
set_option linter.unusedVariables false
def entT (t : Tm) : Lit × DataW Unit := (.string t.n, .lit (.int .i64 t.a))
def dmT (M : List Tm) : DataW Unit := .map (M.map entT)
theorem entT_same (x : Bs) (t : Tm) : (entT t).1.sameKey (.string x) = (t.n == x) := by
  rw [Bool.eq_iff_iff]
  simp [entT, Lit.sameKey]
theorem dmT_size (M : List Tm) : Maps.size (dmT M) = M.length := by simp [dmT, Maps.size]
theorem dmT_has (M : List Tm) (x : Bs) : Maps.has (dmT M) (.string x) = hasL M x := by
  have h : (fun t : Tm => (entT t).1.sameKey (.string x)) = fun t => t.n == x := funext fun t => entT_same x t
  simp only [dmT, Maps.has, List.any_map, hasL, ← h]
  rfl
theorem findT (M : List Tm) (x : Bs) : (M.map entT).find? (fun p => p.1.sameKey (.string x)) = (M.find? (fun t => t.n == x)).map entT := by
  induction M with
  | nil => rfl
  | cons p M ih =>
    rw [List.map_cons, List.find?_cons, List.find?_cons, entT_same]
    cases p.n == x
    · exact ih
    · rfl
theorem dmT_at (M : List Tm) (x : Bs) : (dmT M).atKey (.string x) (.lit (.int .i64 0)) = .lit (.int .i64 (atT M x)) := by
  simp only [dmT, DataW.atKey, findT, atT]
  cases M.find? (fun t => t.n == x) <;> rfl
theorem dmT_del (M : List Tm) (x : Bs) : (dmT M).del (.string x) = dmT (stopL M x) := by
  have h : (fun t : Tm => !(entT t).1.sameKey (.string x)) = fun t => !(t.n == x) := funext fun t => by rw [entT_same]
  simp only [dmT, DataW.del, List.filter_map, stopL, ← h]
  rfl
def insS (t : Tm) : List Tm → List Tm
  | [] => [t]
  | p :: M => if (entT t).1.before (entT p).1 then t :: p :: M else p :: insS t M
theorem ins_map (t : Tm) (M : List Tm) : DataW.insert (entT t) (M.map entT) = (insS t M).map entT := by
  induction M with
  | nil => rfl
  | cons p M ih =>
    rw [List.map_cons, DataW.insert, insS]
    split
    · rfl
    · rw [List.map_cons, ih]
theorem insS_perm (t : Tm) (M : List Tm) : (insS t M).Perm (t :: M) := by
  induction M with
  | nil => exact List.Perm.refl _
  | cons p M ih =>
    rw [insS]
    split
    · exact List.Perm.refl _
    · exact (ih.cons p).trans (List.Perm.swap ..)
theorem dmT_put (M : List Tm) (x : Bs) (a : Int) : (dmT M).put (.string x) (.lit (.int .i64 a)) = dmT (insS ⟨x, a⟩ (stopL M x)) := by
  have hf : (M.map entT).filter (fun p => !p.1.sameKey (.string x)) = (stopL M x).map entT := by
    have h : (fun t : Tm => !(entT t).1.sameKey (.string x)) = fun t => !(t.n == x) := funext fun t => by rw [entT_same]
    rw [stopL, List.filter_map, ← h]
    rfl
  simp only [dmT, DataW.put, hf]
  exact congrArg DataW.map (ins_map ⟨x, a⟩ _)
theorem zeroI (w : World) : (zeroValue 3).run Try.prog w = .ok (.int .i64 0) w := by kernel_rfl
theorem KT : Keyed Try.prog 9 := string_keyed Try.underlying9
/-- the map at block b holds these timers -/
def OwnsT (w : World) (b : Nat) (L : List Tm) : Prop := ∃ M : List Tm, w.ownsMap Try.prog 9 (plainElem (H := Unit) Try.prog 3) b M.length (dmT M) ∧ M.Perm L
section
variable {w : World} {b : Nat} {L : List Tm}
theorem ownsT_of {n : Nat} {M : List Tm} (h : w.ownsMap Try.prog 9 (plainElem (H := Unit) Try.prog 3) b n (dmT M)) : w.ownsMap Try.prog 9 (plainElem (H := Unit) Try.prog 3) b M.length (dmT M) := by
  obtain ⟨es, clock, hb, F, _, hD⟩ := h
  refine ⟨es, clock, hb, F, ?_, hD⟩
  have e1 : Maps.size (DataW.map ((es.toList.map (Go.WideElems.rg Try.prog 9 (plainElem (H := Unit) Try.prog 3))).foldr DataW.insert [])) = es.size := by simp [Maps.size, length_sorted]
  rw [← e1, ← hD, dmT_size]
  exact Nat.le_refl _
theorem OwnsT.blk (h : OwnsT w b L) : ∃ es clock, w.heap[b]? = some (.map es clock) := by
  obtain ⟨M, ⟨es, clock, hb, _⟩, _⟩ := h
  exact ⟨es, clock, hb⟩
theorem OwnsT.to {w' : World} (h : OwnsT w b L) (hb : w'.heap[b]? = w.heap[b]?) : OwnsT w' b L := by
  obtain ⟨M, ⟨es, clock, h1, r⟩, hM⟩ := h
  exact ⟨M, ⟨es, clock, hb.trans h1, r⟩, hM⟩
theorem OwnsT.lt (h : OwnsT w b L) : b < w.heap.size := by
  obtain ⟨M, h, _⟩ := h
  exact World.ownsMap.lt h
theorem OwnsT.perm {L' : List Tm} (h : OwnsT w b L) (k : L.Perm L') : OwnsT w b L' := by
  obtain ⟨M, h, hM⟩ := h
  exact ⟨M, h, hM.trans k⟩
theorem ownsT_new (w : World) : OwnsT (w.alloc (.map #[] 0)) w.heap.size [] := ⟨[], World.ownsMap_made _ _ _ _, List.Perm.refl _⟩
theorem keyT {x : Bs} (hx : x.length ≤ maxLen) : keyOf Try.prog 9 (.string ⟨x.toArray⟩) = some (.string x) := by
  have := Go.WideMaps.keyOf_string_mk (P := Try.prog) (k := 9) Try.underlying9 (s := ⟨x.toArray⟩) hx
  simpa using this
abbrev NeT (L : List Tm) : Prop := L.Pairwise (fun x y => x.n ≠ y.n)
theorem lookT_run (h : OwnsT w b L) (hn : NeT L) {x : Bs} (hx : x.length ≤ maxLen) :
    (Instr.lookup 49 (.map (some b)) (.string ⟨x.toArray⟩) false).run Try.prog w = .ok (.int .i64 (atT L x)) w := by
  obtain ⟨M, h, hM⟩ := h
  obtain ⟨c, hrun, hat, _⟩ := h.lookup_int KT Try.underlying49 Try.underlying3 (zeroI _) (keyT hx)
  rw [dmT_at] at hat
  injection hat with e
  injection e with _ e
  rw [hrun, ← e, atT_perm hn hM.symm]
theorem lenT_run (h : OwnsT w b L) (ty : TypeId) : (Builtin.len_ #[49] ty #[.map (some b)]).run Try.prog w = .ok (.int .i64 L.length) w := by
  obtain ⟨M, h, hM⟩ := h
  rw [h.len Try.underlying49 ty, dmT_size, hM.length_eq]
variable {ops : Array Oper} {rest : List Oper} {o : Oper} {a : Act} {Q : Exit → Act → World → Prop}
theorem wpList_lookT (w : World) (hg : o.guard = none) (m y : Operand) (hop : o.op = Op.lookup 49 m y false) (b : Nat) (L : List Tm) (hm : a.eval m = .map (some b)) (h : OwnsT w b L) (hn : NeT L) (x : Bs) (hy : a.eval y = .string ⟨x.toArray⟩) (hx : x.length ≤ maxLen) (c : Int) (hc : atT L x = c)
    (hK : wpList Try.prog ops Q rest (a.put o.dst (.int .i64 c)) w) : wpList Try.prog ops Q (o :: rest) a w := by
  subst hc
  refine wpList_plain hg fun K' hK' => ?_
  have hrun := lookT_run h hn hx
  unfold Oper.wp
  simp [execOp, hop, hm, hy, hrun, Result.andThen]
  exact hK' _ _ hK
theorem wpList_lookokT (w : World) (hg : o.guard = none) (m y : Operand) (hop : o.op = Op.lookup 49 m y true) (b : Nat) (L : List Tm) (hm : a.eval m = .map (some b)) (h : OwnsT w b L) (hn : NeT L) (x : Bs) (hy : a.eval y = .string ⟨x.toArray⟩) (hx : x.length ≤ maxLen) (c : Int) (hc : atT L x = c) (t : Bool) (ht : hasL L x = t)
    (hK : wpList Try.prog ops Q rest (a.put o.dst (.tuple #[.int .i64 c, .bool t])) w) : wpList Try.prog ops Q (o :: rest) a w := by
  obtain ⟨M, h, hM⟩ := h
  refine wpList_lookup_own_ok_int w hg m y 49 hop 9 3 .i64 KT Try.underlying49 Try.underlying3 (zeroI _) b M.length (dmT M) hm h _ _ hy (keyT hx) fun c' hat _ => ?_
  rw [dmT_at] at hat
  injection hat with e
  injection e with _ e
  rw [dmT_has, hasL_perm hM.symm, ht, ← e, atT_perm hn hM.symm, hc]
  exact hK
theorem wpList_lenT (w : World) (hg : o.guard = none) (m : Operand) (hop : o.op = Op.call { callee := Callee.builtin Builtin.len, args := #[m], argTypes := #[49] }) (b : Nat) (L : List Tm) (hm : a.eval m = .map (some b)) (h : OwnsT w b L) (n : Int) (hn : (L.length : Int) = n)
    (hK : wpList Try.prog ops Q rest (a.put o.dst (.int .i64 n)) w) : wpList Try.prog ops Q (o :: rest) a w := by
  obtain ⟨M, h, hM⟩ := h
  refine wpList_len_own w hg m 49 hop 9 3 Try.underlying49 (plainElem (H := Unit) Try.prog 3) b M.length (dmT M) hm h ?_
  rw [dmT_size, hM.length_eq, hn]
  exact hK
theorem wpList_delT (w : World) (hg : o.guard = none) (m y : Operand) (hop : o.op = Op.call { callee := Callee.builtin Builtin.delete, args := #[m, y], argTypes := #[49, 9] }) (b : Nat) (L : List Tm) (hm : a.eval m = .map (some b)) (h : OwnsT w b L) (x : Bs) (hy : a.eval y = .string ⟨x.toArray⟩) (hx : x.length ≤ maxLen)
    (hK : ∀ w', OwnsT w' b (stopL L x) → w.mapTurned w' b → wpList Try.prog ops Q rest (a.put o.dst (.tuple #[])) w') : wpList Try.prog ops Q (o :: rest) a w := by
  obtain ⟨M, h, hM⟩ := h
  refine wpList_delete_own w hg m y 49 9 hop 3 KT Try.underlying49 (plainElem (H := Unit) Try.prog 3) b M.length (dmT M) hm h _ _ hy (keyT hx) fun w' h1 h2 => hK w' ?_ h2
  rw [dmT_del] at h1
  exact ⟨_, ownsT_of h1, stopL_perm hM x⟩
theorem wpList_putT (w : World) (hg : o.guard = none) (m y v : Operand) (hop : o.op = Op.mapUpdate 49 m y v) (b : Nat) (L : List Tm) (hm : a.eval m = .map (some b)) (h : OwnsT w b L) (hl : L.length < maxLen) (x : Bs) (hy : a.eval y = .string ⟨x.toArray⟩) (hx : x.length ≤ maxLen) (n : Int) (hv : a.eval v = .int .i64 n) (hw : (Lit.int .i64 n).wf = true)
    (hK : ∀ w', OwnsT w' b (setL L x n) → w.mapTurned w' b → wpList Try.prog ops Q rest (a.put o.dst undef) w') : wpList Try.prog ops Q (o :: rest) a w := by
  obtain ⟨M, h, hM⟩ := h
  refine wpList_mapUpdate_in w hg m y v 49 hop 9 3 KT Try.underlying49 (plainElem (H := Unit) Try.prog 3) b M.length (dmT M) hm h (by rw [hM.length_eq]; exact hl) _ _ _ hy hv (keyT hx) (.lit (.int .i64 n)) [] (plainElem_int Try.underlying3 hw) fun w' h1 h2 => hK w' ?_ h2
  rw [dmT_put] at h1
  exact ⟨_, ownsT_of h1, (insS_perm _ _).trans ((List.Perm.cons _ (stopL_perm hM x)).trans (setL_perm L x n).symm)⟩
/-- ranging over the map: the loop's state; ss: the names met so far that are due by then -/
def RangesT (w : World) (b r : Nat) (L : List Tm) (left : Lit → Bool) (cnt : Nat) (ss : List Bs) : Prop :=
  ∃ M : List Tm, w.ranges Try.prog 9 (plainElem (H := Unit) Try.prog 3) b r M.length (dmT M) left cnt ∧ M.Perm L ∧ Collected (dmT M) left ss
theorem RangesT.to {w' : World} {r : Nat} {left : Lit → Bool} {cnt : Nat} {ss : List Bs} (h : RangesT w b r L left cnt ss) (h1 : w'.heap[b]? = w.heap[b]?) (h2 : w'.heap[r]? = w.heap[r]?) : RangesT w' b r L left cnt ss := by
  obtain ⟨M, ⟨es, clock, since, seen, c0, hb, F, hs, hD, hr, k⟩, hM, hC⟩ := h
  exact ⟨M, ⟨es, clock, since, seen, c0, h1.trans hb, F, hs, hD, h2.trans hr, k⟩, hM, hC⟩
theorem RangesT.iter {r : Nat} {left : Lit → Bool} {cnt : Nat} {ss : List Bs} (h : RangesT w b r L left cnt ss) : (∃ s e c, w.heap[r]? = some (.mapIter (some b) s e c)) ∧ w.rangeLeft b r = cnt := by
  obtain ⟨M, h, _⟩ := h
  refine ⟨?_, h.left_eq⟩
  obtain ⟨es, clock, since, seen, c0, hb, F, hs, hD, hr, k⟩ := h
  exact ⟨_, _, _, hr⟩
theorem RangesT.own {r : Nat} {left : Lit → Bool} {cnt : Nat} {ss : List Bs} (h : RangesT w b r L left cnt ss) : OwnsT w b L := by
  obtain ⟨M, h, hM, _⟩ := h
  exact ⟨M, h.owns, hM⟩
theorem keysT (M : List Tm) : strKeys (dmT M) = M.map (·.n) := by
  simp only [dmT, strKeys, List.map_map]
  rfl
theorem wpList_rangeT (w : World) (hg : o.guard = none) (m : Operand) (hop : o.op = Op.range 49 m) (b : Nat) (L : List Tm) (hm : a.eval m = .map (some b)) (h : OwnsT w b L)
    (hK : ∀ w' r left, r = w.heap.size → RangesT w' b r L left L.length [] → w.grownBy w' none → w'.heap.size = w.heap.size + 1 → wpList Try.prog ops Q rest (a.put o.dst (.pointer (some ⟨r, 0, none⟩))) w') : wpList Try.prog ops Q (o :: rest) a w := by
  obtain ⟨M, h, hM⟩ := h
  refine wpList_range_own w hg m 49 hop 9 3 KT Try.underlying49 (plainElem (H := Unit) Try.prog 3) b M.length (dmT M) hm h fun w' h1 h2 h3 => hK w' _ _ rfl ⟨M, ?_, hM, Collected.start _⟩ h2 h3
  rw [dmT_size] at h1
  rw [← hM.length_eq]
  exact h1
theorem wpList_nextT (w : World) (hg : o.guard = none) (it : Operand) (hop : o.op = Op.next it false) (b r : Nat) (L : List Tm) (hn : NeT L) (left : Lit → Bool) (cnt : Nat) (ss : List Bs)
    (hit : a.eval it = .pointer (some ⟨r, 0, none⟩)) (h : RangesT w b r L left cnt ss)
    (hDone : ss.Perm (L.map (·.n)) → wpList Try.prog ops Q rest (a.put o.dst (.tuple #[.bool false])) w)
    (hMore : ∀ (t : Tm) (w' : World) (left' : Lit → Bool) (cnt' : Nat), t ∈ L → RangesT w' b r L left' cnt' (ss ++ [t.n]) → cnt' < cnt → w.grownBy w' (some r) → w'.heap.size = w.heap.size →
      (Instr.entry (.pointer (some ⟨r, 0, none⟩))).run Try.prog w' = .ok (.tuple #[.string ⟨t.n.toArray⟩, .int .i64 t.a]) w' → wpList Try.prog ops Q rest (a.put o.dst (.tuple #[.bool true, .string ⟨t.n.toArray⟩, .int .i64 t.a])) w') :
    wpList Try.prog ops Q (o :: rest) a w := by
  obtain ⟨M, h, hM, hC⟩ := h
  refine wpList_next_ranges w hg it hop 9 KT (plainElem (H := Unit) Try.prog 3) Go.Proofs.encStr (Value.int .i64) (fun key kl hk => by obtain ⟨x, hx, _⟩ := Maps.keyOf_str Try.underlying9 hk; exact ⟨x, hx⟩) (fun v y hv => by obtain ⟨c, rfl, _⟩ := plainElem_int_inv Try.underlying3 hv; exact ⟨c, rfl⟩) b r M.length (dmT M) left cnt hit h
    (fun _ hl0 => hDone ?_) fun x c kl y w' cnt' hkey hlk hv hat hrg hlt hgr hsz hen => ?_
  · obtain ⟨clock, hown⟩ : ∃ n, w.ownsMap Try.prog 9 (plainElem (H := Unit) Try.prog 3) b n (dmT M) := ⟨_, h.owns⟩
    have := hC.perm hown KT Try.underlying9 hl0
    rw [keysT] at this
    exact this.trans (hM.map _)
  · obtain ⟨x', ex, rfl, _⟩ := Maps.keyOf_str Try.underlying9 hkey
    obtain rfl : x = x' := encStr_inj ex
    have h1 := hat (.lit (.int .i64 0))
    have hhas : Maps.has (dmT M) (.string x) = true := has_true_of_atKey hat
    rw [dmT_at] at h1
    obtain ⟨c', hc', hy, _⟩ := plainElem_int_inv Try.underlying3 hv
    cases hc'
    rw [hy] at h1
    injection h1 with e
    injection e with _ e
    rw [dmT_has] at hhas
    obtain ⟨t, ht, htx⟩ := List.any_eq_true.1 hhas
    have htx : t.n = x := by simpa using htx
    have hM2 : NeT M := pw_perm_ne hn hM.symm
    have hta := atT_mem hM2 ht
    rw [htx] at hta
    subst htx
    have := hMore t w' _ cnt' (hM.mem_iff.1 ht) ⟨M, hrg, hM, hC.step hlk hat⟩ hlt hgr hsz
    rw [← hta, e] at this
    exact this hen
end
end Go.Proofs.Ytkkncnffkmopbaa
