/-
  A map from names and types to pointers: what it holds as a list, and the laws of a walk at its operations.
-/
import Derived.Test.YtijmbpokglohbaaKa
import Derived.Test.YtijmbpokglohbaaChecked
import Derived.Test.YtijmbpokglohbaaRd
import Derived.Maps.RangeWalk
import Derived.Maps.OwnOps
import Derived.Maps.OwnSet
import Derived.DeepKeys4
import Derived.MapViews
namespace Go.Proofs.Ytijmbpokglohbaa
open Go.RowKit Go.Maps
set_option linter.unusedSimpArgs false
set_option linter.unusedVariables false
def keyV (nm : Bs) (ty : Int) : Value := .agg #[.string ⟨nm.toArray⟩, .int .i64 ty]
def kl (nm : Bs) (ty : Int) : Lit := .string (keyBytes [.string nm, .int .i64 ty])
theorem keyWide : (match Try.prog.underlying 102 with | some (.array _ _) | some (.struct _) => true | _ => false) = true := by rw [Try.underlying102]
theorem keyRow : (102 : TypeId) < Try.prog.types.size := of_decide_eq_true (by kernel_rfl)
set_option maxRecDepth 100000 in
theorem keyLaw : WideMaps.KeyLaw Try.prog 102 := deep_law_laid TrylaidOut (m := 2) (by omega) keyRow (by kernel_rfl) keyWide
theorem KC : Keyed Try.prog 102 := Keyed.of_law keyLaw
theorem keyTyp : Try.prog.keyType 102 = true := by kernel_rfl
theorem pos_of_lt {a b : Nat} (h : a < b) : ∃ m, b = m + 1 := ⟨b - 1, by omega⟩
theorem keySize : ∃ m, Try.prog.types.size = m + 1 := pos_of_lt keyRow
theorem cells102 : Try.prog.cellsOf 102 = 2 := by kernel_rfl
theorem keyK {nm : Bs} {ty : Int} (h1 : nm.length ≤ maxLen) (h2 : (Lit.int .i64 ty).wf = true) : keyOf Try.prog 102 (keyV nm ty) = some (kl nm ty) := by
  have hs : ∃ m, Try.prog.types.size = m + 1 := keySize
  obtain ⟨m, hm⟩ := hs
  have c1 : Try.prog.cellsOf 29 = 1 := by kernel_rfl
  have c2 : Try.prog.cellsOf 3 = 1 := by kernel_rfl
  have hf : (keyV nm ty).formed Try.prog 102 = true := by simp [keyV, Value.formed, Try.underlying102, cells102]
  have e1 : ∀ d, Try.prog.keyLits (d + 1) 29 [.string ⟨nm.toArray⟩] = some [.string nm] := fun d => by
    have : (⟨nm.toArray⟩ : ByteArray).size ≤ maxLen := h1
    simp [Program.keyLits, Try.underlying29, this]
  have e2 : ∀ d, Try.prog.keyLits (d + 1) 3 [.int .i64 ty] = some [.int .i64 ty] := fun d => by
    simp [Program.keyLits, Try.underlying3, h2]
  have e3 : Try.prog.keyLits (Try.prog.types.size + 1) 102 (keyV nm ty).cells.toList = some [.string nm, .int .i64 ty] := by
    rw [hm]
    unfold Program.keyLits
    simp only [Try.underlying102]
    simp [keyV, Value.cells, cells102, c1, c2, e1, e2]
  unfold keyOf
  simp only [Try.underlying102, keyTyp, hf, e3]
  rfl
set_option maxRecDepth 100000 in
theorem keyInv {v : Value} {l : Lit} (h : keyOf Try.prog 102 v = some l) : ∃ (nm : Bs) (ty : Int), v = keyV nm ty ∧ l = kl nm ty ∧ nm.length ≤ maxLen ∧ (Lit.int .i64 ty).wf = true := by
  have h0 := h
  obtain ⟨m, hm⟩ := keySize
  have c1 : Try.prog.cellsOf 29 = 1 := by kernel_rfl
  have c2 : Try.prog.cellsOf 3 = 1 := by kernel_rfl
  unfold keyOf at h
  simp only [Try.underlying102, keyTyp, Bool.true_and] at h
  split at h
  case isFalse => cases h
  rename_i hf
  cases v with
  | agg cs =>
    have hsz : cs.size = 2 := by simpa [Value.formed, Try.underlying102, cells102] using hf
    obtain ⟨c0, c1', rfl⟩ : ∃ a b, cs = #[a, b] := ⟨cs[0], cs[1], by apply Array.ext (by simp [hsz]); intro i h1 h2; simp at h2; rcases i with _ | _ | i; rfl; rfl; omega⟩
    obtain ⟨ls, hls, rfl⟩ := Option.map_eq_some_iff.1 h
    rw [hm] at hls
    unfold Program.keyLits at hls
    simp only [Try.underlying102] at hls
    cases h1 : Try.prog.keyLits (m + 1) 29 [c0] with
    | none => simp [Value.cells, cells102, c1, c2, h1] at hls
    | some l1 =>
      cases h2 : Try.prog.keyLits (m + 1) 3 [c1'] with
      | none => simp [Value.cells, cells102, c1, c2, h1, h2] at hls
      | some l2 =>
        simp [Value.cells, cells102, c1, c2, h1, h2] at hls
        unfold Program.keyLits at h1 h2
        simp only [Try.underlying29, Try.underlying3] at h1 h2
        cases c0 <;> simp at h1
        cases c1' <;> simp at h2
        rename_i s k n
        obtain ⟨hs, rfl⟩ := h1
        obtain ⟨⟨rfl, hw⟩, rfl⟩ := h2
        refine ⟨s.data.toList, n, by simp [keyV], ?_, by rw [Array.length_toList]; exact hs, hw⟩
        rw [kl, ← hls]
        rfl
  | _ => simp [Value.formed, Try.underlying102] at hf
/-- a key that may be -/
def KOk (nm : Bs) (ty : Int) : Prop := nm.length ≤ maxLen ∧ (Lit.int .i64 ty).wf = true
theorem kl_inj {n m : Bs} {a b : Int} (h1 : KOk n a) (h2 : KOk m b) (h : kl n a = kl m b) : n = m ∧ a = b := by
  have e := KC.inj (keyK h1.1 h1.2) (by rw [h]; exact keyK h2.1 h2.2)
  simp only [keyV, Value.agg.injEq] at e
  have := congrArg Array.toList e
  simp only [List.cons.injEq, Value.string.injEq, Value.int.injEq, true_and, and_true] at this
  exact ⟨ba_inj.1 this.1, this.2⟩
def RQ : Value → Option (DataW Unit × List MemPlace)
  | .pointer none => some (.lit (.int .i64 (-1)), [])
  | .pointer (some ⟨g, 0, none⟩) => some (.lit (.int .i64 g), [])
  | _ => none
def mkQ : Option Nat → Value
  | none => .pointer none
  | some g => .pointer (some ⟨g, 0, none⟩)
def litQ : Option Nat → DataW Unit
  | none => .lit (.int .i64 (-1))
  | some g => .lit (.int .i64 g)
theorem RQ_mk (c : Option Nat) : RQ (mkQ c) = some (litQ c, []) := by cases c <;> rfl
theorem RQ_inv {v : Value} {y : DataW Unit × List MemPlace} (h : RQ v = some y) : ∃ c, v = mkQ c := by
  unfold RQ at h
  split at h
  · exact ⟨none, rfl⟩
  · exact ⟨some _, rfl⟩
  · cases h
theorem litQ_inj {a b : Option Nat} (h : litQ a = litQ b) : a = b := by
  cases a <;> cases b <;> simp [litQ] at h ⊢ <;> first | exact h | omega
/-- an entry: its name, its type, where it lies -/
structure KE where
  nm : Bs
  ty : Int
  g : Nat
def KE.is (nm : Bs) (ty : Int) (p : KE) : Bool := p.nm == nm && decide (p.ty = ty)
def entQ (p : KE) : Lit × DataW Unit := (kl p.nm p.ty, .lit (.int .i64 p.g))
def dmQ (M : List KE) : DataW Unit := .map (M.map entQ)
def AllOk (M : List KE) : Prop := ∀ p ∈ M, KOk p.nm p.ty
def atQ (M : List KE) (nm : Bs) (ty : Int) : Option Nat := (M.find? (KE.is nm ty)).map (·.g)
def dropQ (M : List KE) (nm : Bs) (ty : Int) : List KE := M.filter (fun p => !KE.is nm ty p)
theorem entQ_same {p : KE} {nm : Bs} {ty : Int} (hp : KOk p.nm p.ty) (h : KOk nm ty) : (entQ p).1.sameKey (kl nm ty) = KE.is nm ty p := by
  rw [Bool.eq_iff_iff]
  simp only [entQ, KE.is, Bool.and_eq_true, beq_iff_eq, decide_eq_true_eq]
  constructor
  · intro hs
    exact kl_inj hp h (by simpa [kl, Lit.sameKey] using hs)
  · rintro ⟨rfl, rfl⟩
    simp [kl, Lit.sameKey]
theorem dmQ_size (M : List KE) : Maps.size (dmQ M) = M.length := by simp [dmQ, Maps.size]
theorem dmQ_has {M : List KE} {nm : Bs} {ty : Int} (hM : AllOk M) (h : KOk nm ty) : Maps.has (dmQ M) (kl nm ty) = M.any (KE.is nm ty) := by
  simp only [dmQ, Maps.has, List.any_map]
  induction M with
  | nil => rfl
  | cons p M ih =>
    simp only [List.any_cons, Function.comp]
    rw [entQ_same (hM p (List.mem_cons_self ..)) h]
    congr 1
    exact ih (fun q hq => hM q (List.mem_cons_of_mem _ hq))
theorem findQ {M : List KE} {nm : Bs} {ty : Int} (hM : AllOk M) (h : KOk nm ty) : (M.map entQ).find? (fun p => p.1.sameKey (kl nm ty)) = (M.find? (KE.is nm ty)).map entQ := by
  induction M with
  | nil => rfl
  | cons p M ih =>
    rw [List.map_cons, List.find?_cons, List.find?_cons, entQ_same (hM p (List.mem_cons_self ..)) h]
    cases KE.is nm ty p
    · exact ih (fun q hq => hM q (List.mem_cons_of_mem _ hq))
    · rfl
theorem dmQ_at {M : List KE} {nm : Bs} {ty : Int} (hM : AllOk M) (h : KOk nm ty) (z : DataW Unit) : (dmQ M).atKey (kl nm ty) z = (match atQ M nm ty with | some g => .lit (.int .i64 g) | none => z) := by
  simp only [dmQ, DataW.atKey, findQ hM h, atQ]
  cases M.find? (KE.is nm ty) <;> rfl
theorem filterQ {M : List KE} {nm : Bs} {ty : Int} (hM : AllOk M) (h : KOk nm ty) : (M.map entQ).filter (fun p => !p.1.sameKey (kl nm ty)) = (dropQ M nm ty).map entQ := by
  induction M with
  | nil => rfl
  | cons p M ih =>
    have := ih (fun q hq => hM q (List.mem_cons_of_mem _ hq))
    rw [List.map_cons, List.filter_cons, entQ_same (hM p (List.mem_cons_self ..)) h]
    simp only [dropQ, List.filter_cons] at this ⊢
    cases KE.is nm ty p
    · simp only [Bool.not_false, if_true, List.map_cons]; rw [this]
    · simp only [Bool.not_true, Bool.false_eq_true, if_false]; exact this
theorem dmQ_del {M : List KE} {nm : Bs} {ty : Int} (hM : AllOk M) (h : KOk nm ty) : (dmQ M).del (kl nm ty) = dmQ (dropQ M nm ty) := by
  simp only [dmQ, DataW.del, filterQ hM h]
def insQ (t : KE) : List KE → List KE
  | [] => [t]
  | p :: M => if (entQ t).1.before (entQ p).1 then t :: p :: M else p :: insQ t M
theorem insQ_map (t : KE) (M : List KE) : DataW.insert (entQ t) (M.map entQ) = (insQ t M).map entQ := by
  induction M with
  | nil => rfl
  | cons p M ih =>
    rw [List.map_cons, DataW.insert, insQ]
    split
    · rfl
    · rw [List.map_cons, ih]
theorem insQ_perm (t : KE) (M : List KE) : (insQ t M).Perm (t :: M) := by
  induction M with
  | nil => exact List.Perm.refl _
  | cons p M ih =>
    rw [insQ]
    split
    · exact List.Perm.refl _
    · exact (ih.cons p).trans (List.Perm.swap ..)
theorem dmQ_put {M : List KE} {nm : Bs} {ty : Int} (hM : AllOk M) (h : KOk nm ty) (g : Nat) : (dmQ M).put (kl nm ty) (.lit (.int .i64 g)) = dmQ (insQ ⟨nm, ty, g⟩ (dropQ M nm ty)) := by
  simp only [dmQ, DataW.put, filterQ hM h]
  exact congrArg DataW.map (insQ_map ⟨nm, ty, g⟩ _)
theorem zeroQ (w : World) : (zeroValue 103).run Try.prog w = .ok (.pointer none) w := by kernel_rfl
/-- the map at block b holds these entries -/
def OwnsQ (w : World) (b : Nat) (L : List KE) : Prop := ∃ M : List KE, w.ownsMap Try.prog 102 RQ b M.length (dmQ M) ∧ M.Perm L ∧ AllOk L
section
variable {w : World} {b : Nat} {L : List KE}
theorem ownsQ_of {n : Nat} {M : List KE} (h : w.ownsMap Try.prog 102 RQ b n (dmQ M)) : w.ownsMap Try.prog 102 RQ b M.length (dmQ M) := by
  obtain ⟨es, clock, hb, F, _, hD⟩ := h
  refine ⟨es, clock, hb, F, ?_, hD⟩
  have e1 : Maps.size (DataW.map ((es.toList.map (Go.WideElems.rg Try.prog 102 RQ)).foldr DataW.insert [])) = es.size := by simp [Maps.size, length_sorted]
  rw [← e1, ← hD, dmQ_size]
  exact Nat.le_refl _
theorem OwnsQ.blk (h : OwnsQ w b L) : ∃ es clock, w.heap[b]? = some (.map es clock) := by
  obtain ⟨M, ⟨es, clock, hb, _⟩, _⟩ := h
  exact ⟨es, clock, hb⟩
theorem OwnsQ.to {w' : World} (h : OwnsQ w b L) (hb : w'.heap[b]? = w.heap[b]?) : OwnsQ w' b L := by
  obtain ⟨M, ⟨es, clock, h1, r⟩, hM⟩ := h
  exact ⟨M, ⟨es, clock, hb.trans h1, r⟩, hM⟩
theorem OwnsQ.lt (h : OwnsQ w b L) : b < w.heap.size := by
  obtain ⟨M, h, _⟩ := h
  exact World.ownsMap.lt h
theorem ownsQ_new (w : World) : OwnsQ (w.alloc (.map #[] 0)) w.heap.size [] := ⟨[], World.ownsMap_made _ _ _ _, List.Perm.refl _, fun p hp => by cases hp⟩
/-- no key twice -/
def NeQ (L : List KE) : Prop := L.Pairwise (fun p q => ¬ (p.nm = q.nm ∧ p.ty = q.ty))
theorem atQ_mem (h : NeQ L) {p : KE} (hp : p ∈ L) : atQ L p.nm p.ty = some p.g := by
  unfold atQ
  induction L with
  | nil => cases hp
  | cons y L ih =>
    obtain ⟨h1, h2⟩ := List.pairwise_cons.1 h
    rw [List.find?_cons]
    rcases List.mem_cons.1 hp with rfl | hp
    · simp [KE.is]
    · have : KE.is p.nm p.ty y = false := by
        cases hb : KE.is p.nm p.ty y
        · rfl
        · simp only [KE.is, Bool.and_eq_true, beq_iff_eq, decide_eq_true_eq] at hb
          exact absurd hb (h1 p hp)
      rw [this]; exact ih h2 hp
theorem atQ_no {nm : Bs} {ty : Int} (h : ∀ p ∈ L, ¬ (p.nm = nm ∧ p.ty = ty)) : atQ L nm ty = none := by
  unfold atQ
  rw [List.find?_eq_none.2]; rfl
  intro p hp hb
  simp only [KE.is, Bool.and_eq_true, beq_iff_eq, decide_eq_true_eq] at hb
  exact h p hp hb
theorem NeQ.perm {M : List KE} (h : NeQ L) (k : L.Perm M) : NeQ M := List.Perm.pairwise k h (fun h1 ⟨a, b⟩ => h1 ⟨a.symm, b.symm⟩)
theorem atQ_perm {M : List KE} (h : NeQ L) (k : L.Perm M) (nm : Bs) (ty : Int) : atQ M nm ty = atQ L nm ty := by
  by_cases hx : ∃ p ∈ L, p.nm = nm ∧ p.ty = ty
  · obtain ⟨p, hp, rfl, rfl⟩ := hx
    rw [atQ_mem h hp, atQ_mem (h.perm k) (k.mem_iff.1 hp)]
  · have h1 : ∀ p ∈ L, ¬ (p.nm = nm ∧ p.ty = ty) := fun p hp e => hx ⟨p, hp, e⟩
    rw [atQ_no h1, atQ_no (fun p hp => h1 p (k.mem_iff.2 hp))]
variable {ops : Array Oper} {rest : List Oper} {o : Oper} {a : Act} {Q : Exit → Act → World → Prop}
set_option maxRecDepth 100000 in
theorem lookQ_run (h : OwnsQ w b L) (hn : NeQ L) {nm : Bs} {ty : Int} (hk : KOk nm ty) : (Instr.lookup 97 (.map (some b)) (keyV nm ty) true).run Try.prog w = .ok (.tuple #[mkQ (atQ L nm ty), .bool (atQ L nm ty).isSome]) w := by
  obtain ⟨M, h, hM, hL⟩ := h
  have hMo : AllOk M := fun p hp => hL p (hM.mem_iff.1 hp)
  obtain ⟨v, ps, hrun, hv⟩ := h.look_ok KC Try.underlying97 (zeroQ w) (zd := litQ none) (zp := []) rfl (keyK hk.1 hk.2)
  obtain ⟨c, rfl⟩ := RQ_inv hv
  rw [RQ_mk, dmQ_at hMo hk, atQ_perm hn hM.symm] at hv
  injection hv with hv
  injection hv with hv _
  have hc : c = atQ L nm ty := litQ_inj (by rw [hv]; cases atQ L nm ty <;> rfl)
  have hb : M.any (KE.is nm ty) = (atQ L nm ty).isSome := by
    rw [← atQ_perm hn hM.symm, atQ, Option.isSome_map, List.isSome_find?]
  rw [hrun, hc, dmQ_has hMo hk, hb]
theorem lenQ_run (h : OwnsQ w b L) (ty : TypeId) : (Builtin.len_ #[97] ty #[.map (some b)]).run Try.prog w = .ok (.int .i64 L.length) w := by
  obtain ⟨M, h, hM, _⟩ := h
  rw [h.len Try.underlying97 ty, dmQ_size, hM.length_eq]
theorem wpList_lookQ (w : World) (hg : o.guard = none) (m y : Operand) (hop : o.op = Op.lookup 97 m y true) (b : Nat) (L : List KE) (hm : a.eval m = .map (some b)) (h : OwnsQ w b L) (hn : NeQ L) (nm : Bs) (ty : Int) (hy : a.eval y = .agg #[.string ⟨nm.toArray⟩, .int .i64 ty]) (hk : KOk nm ty) (c : Option Nat) (hc : atQ L nm ty = c)
    (hK : wpList Try.prog ops Q rest (a.put o.dst (.tuple #[mkQ c, .bool c.isSome])) w) : wpList Try.prog ops Q (o :: rest) a w := by
  subst hc
  refine wpList_plain hg fun K' hK' => ?_
  have hrun := lookQ_run h hn hk
  unfold keyV at hrun
  unfold Oper.wp
  simp [execOp, hop, hm, hy, hrun, Result.andThen]
  exact hK' _ _ hK
theorem wpList_lenQ (w : World) (hg : o.guard = none) (m : Operand) (hop : o.op = Op.call { callee := Callee.builtin Builtin.len, args := #[m], argTypes := #[97] }) (b : Nat) (L : List KE) (hm : a.eval m = .map (some b)) (h : OwnsQ w b L) (n : Int) (hn : (L.length : Int) = n)
    (hK : wpList Try.prog ops Q rest (a.put o.dst (.int .i64 n)) w) : wpList Try.prog ops Q (o :: rest) a w := by
  subst hn
  refine wpList_plain hg fun K' hK' => ?_
  have hrun := lenQ_run h o.type
  unfold Oper.wp
  simp [execOp, hop, resolve, invoke, builtin, hm, hrun, Result.andThen]
  exact hK' _ _ hK
theorem wpList_delQ (w : World) (hg : o.guard = none) (m y : Operand) (hop : o.op = Op.call { callee := Callee.builtin Builtin.delete, args := #[m, y], argTypes := #[97, 102] }) (b : Nat) (L : List KE) (hm : a.eval m = .map (some b)) (h : OwnsQ w b L) (nm : Bs) (ty : Int) (hy : a.eval y = .agg #[.string ⟨nm.toArray⟩, .int .i64 ty]) (hk : KOk nm ty)
    (hK : ∀ w', OwnsQ w' b (dropQ L nm ty) → w.mapTurned w' b → wpList Try.prog ops Q rest (a.put o.dst (.tuple #[])) w') : wpList Try.prog ops Q (o :: rest) a w := by
  obtain ⟨M, h, hM, hL⟩ := h
  have hMo : AllOk M := fun p hp => hL p (hM.mem_iff.1 hp)
  refine wpList_delete_own w hg m y 97 102 hop 103 KC Try.underlying97 RQ b M.length (dmQ M) hm h _ _ hy (keyK hk.1 hk.2) fun w' h1 h2 => hK w' ?_ h2
  rw [dmQ_del hMo hk] at h1
  exact ⟨_, ownsQ_of h1, hM.filter _, fun p hp => hL p (List.mem_filter.1 hp).1⟩
theorem wpList_putQ (w : World) (hg : o.guard = none) (m y v : Operand) (hop : o.op = Op.mapUpdate 97 m y v) (b : Nat) (L : List KE) (hm : a.eval m = .map (some b)) (h : OwnsQ w b L) (hl : L.length < maxLen) (nm : Bs) (ty : Int) (hy : a.eval y = .agg #[.string ⟨nm.toArray⟩, .int .i64 ty]) (hk : KOk nm ty) (g : Nat) (hv : a.eval v = .pointer (some ⟨g, 0, none⟩))
    (hK : ∀ w', OwnsQ w' b (dropQ L nm ty ++ [⟨nm, ty, g⟩]) → w.mapTurned w' b → wpList Try.prog ops Q rest (a.put o.dst undef) w') : wpList Try.prog ops Q (o :: rest) a w := by
  obtain ⟨M, h, hM, hL⟩ := h
  have hMo : AllOk M := fun p hp => hL p (hM.mem_iff.1 hp)
  refine wpList_mapUpdate_in w hg m y v 97 hop 102 103 KC Try.underlying97 RQ b M.length (dmQ M) hm h (by rw [hM.length_eq]; exact hl) _ _ _ hy hv (keyK hk.1 hk.2) (litQ (some g)) [] rfl fun w' h1 h2 => hK w' ?_ h2
  have e : (dmQ M).put (kl nm ty) (litQ (some g)) = dmQ (insQ ⟨nm, ty, g⟩ (dropQ M nm ty)) := dmQ_put hMo hk g
  rw [e] at h1
  refine ⟨_, ownsQ_of h1, (insQ_perm _ _).trans ((List.Perm.cons _ (hM.filter _)).trans (List.perm_append_singleton _ _).symm), fun p hp => ?_⟩
  rcases List.mem_append.1 hp with hp | hp
  · exact hL p (List.mem_filter.1 hp).1
  · rw [List.mem_singleton.1 hp]; exact hk
/-- ranging over the map: left: what is still to come -/
def RangesQ (w : World) (b r : Nat) (L : List KE) (left : Lit → Bool) (cnt : Nat) : Prop :=
  ∃ (M : List KE) (n : Nat), w.ranges Try.prog 102 RQ b r n (dmQ M) left cnt ∧ M.Perm L ∧ AllOk L ∧ ∀ l, left l = true → Maps.has (dmQ M) l = true
theorem RangesQ.to {w' : World} {r : Nat} {left : Lit → Bool} {cnt : Nat} (h : RangesQ w b r L left cnt) (h1 : w'.heap[b]? = w.heap[b]?) (h2 : w'.heap[r]? = w.heap[r]?) : RangesQ w' b r L left cnt := by
  obtain ⟨M, n, ⟨es, clock, since, seen, c0, hb, F, hs, hD, hr, k⟩, hM⟩ := h
  exact ⟨M, n, ⟨es, clock, since, seen, c0, h1.trans hb, F, hs, hD, h2.trans hr, k⟩, hM⟩
theorem RangesQ.iter {r : Nat} {left : Lit → Bool} {cnt : Nat} (h : RangesQ w b r L left cnt) : (∃ s e c, w.heap[r]? = some (.mapIter (some b) s e c)) ∧ w.rangeLeft b r = cnt := by
  obtain ⟨M, n, h, _⟩ := h
  refine ⟨?_, h.left_eq⟩
  obtain ⟨es, clock, since, seen, c0, hb, F, hs, hD, hr, k⟩ := h
  exact ⟨_, _, _, hr⟩
theorem RangesQ.own {r : Nat} {left : Lit → Bool} {cnt : Nat} (h : RangesQ w b r L left cnt) : OwnsQ w b L := by
  obtain ⟨M, n, h, hM, hL, _⟩ := h
  exact ⟨M, ownsQ_of h.owns, hM, hL⟩
theorem wpList_rangeQ (w : World) (hg : o.guard = none) (m : Operand) (hop : o.op = Op.range 97 m) (b : Nat) (L : List KE) (hm : a.eval m = .map (some b)) (h : OwnsQ w b L)
    (hK : ∀ w' r left, r = w.heap.size → RangesQ w' b r L left L.length → (∀ p ∈ L, left (kl p.nm p.ty) = true) → w.grownBy w' none → w'.heap.size = w.heap.size + 1 → wpList Try.prog ops Q rest (a.put o.dst (.pointer (some ⟨r, 0, none⟩))) w') : wpList Try.prog ops Q (o :: rest) a w := by
  obtain ⟨M, h, hM, hL⟩ := h
  have hMo : AllOk M := fun p hp => hL p (hM.mem_iff.1 hp)
  refine wpList_range_own w hg m 97 hop 102 103 KC Try.underlying97 RQ b M.length (dmQ M) hm h fun w' h1 h2 h3 => hK w' _ _ rfl ⟨M, M.length, ?_, hM, hL, fun _ h => h⟩ (fun p hp => ?_) h2 h3
  · rw [dmQ_size] at h1
    rw [← hM.length_eq]
    exact h1
  · rw [dmQ_has hMo (hL p hp), List.any_eq_true]
    exact ⟨p, hM.mem_iff.2 hp, by simp [KE.is]⟩
theorem wpList_nextQ (w : World) (hg : o.guard = none) (it : Operand) (hop : o.op = Op.next it false) (b r : Nat) (L : List KE) (hn : NeQ L) (left : Lit → Bool) (cnt : Nat)
    (hit : a.eval it = .pointer (some ⟨r, 0, none⟩)) (h : RangesQ w b r L left cnt)
    (hDone : (∀ l, left l = false) → wpList Try.prog ops Q rest (a.put o.dst (.tuple #[.bool false])) w)
    (hMore : ∀ (p : KE) (w' : World) (cnt' : Nat), p ∈ L → left (kl p.nm p.ty) = true → RangesQ w' b r L (fun z => left z && !z.sameKey (kl p.nm p.ty)) cnt' → cnt' < cnt → w.grownBy w' (some r) → w'.heap.size = w.heap.size →
      (Instr.entry (.pointer (some ⟨r, 0, none⟩))).run Try.prog w' = .ok (.tuple #[.agg #[.string ⟨p.nm.toArray⟩, .int .i64 p.ty], .pointer (some ⟨p.g, 0, none⟩)]) w' → wpList Try.prog ops Q rest (a.put o.dst (.tuple #[.bool true, .agg #[.string ⟨p.nm.toArray⟩, .int .i64 p.ty], .pointer (some ⟨p.g, 0, none⟩)])) w') :
    wpList Try.prog ops Q (o :: rest) a w := by
  obtain ⟨M, n, h, hM, hL, hleft⟩ := h
  have hMo : AllOk M := fun p hp => hL p (hM.mem_iff.1 hp)
  refine wpList_next_ranges w hg it hop 102 KC RQ (fun x : Bs × Int => keyV x.1 x.2) mkQ (fun key l hk => by obtain ⟨nm, ty, e, _⟩ := keyInv hk; exact ⟨(nm, ty), e⟩) (fun v y hv => RQ_inv hv) b r n (dmQ M) left cnt hit h
    (fun _ hl0 => hDone hl0) fun x c l y w' cnt' hkey hlk hv hat hrg hlt hgr hsz hen => ?_
  obtain ⟨nm, ty⟩ := x
  obtain ⟨nm', ty', e1, rfl, h1, h2⟩ := keyInv hkey
  simp only [keyV, Value.agg.injEq] at e1
  have e2 := congrArg Array.toList e1
  simp only [List.cons.injEq, Value.string.injEq, Value.int.injEq, true_and, and_true] at e2
  obtain ⟨e3, rfl⟩ := e2
  obtain rfl := ba_inj.1 e3
  have hko : KOk nm ty := ⟨h1, h2⟩
  have hhas := hleft _ hlk
  rw [dmQ_has hMo hko] at hhas
  obtain ⟨p, hp, hpx⟩ := List.any_eq_true.1 hhas
  simp only [KE.is, Bool.and_eq_true, beq_iff_eq, decide_eq_true_eq] at hpx
  obtain ⟨rfl, rfl⟩ := hpx
  have hz := hat (litQ none)
  rw [dmQ_at hMo hko, atQ_mem (hn.perm hM.symm) hp] at hz
  rw [RQ_mk] at hv
  injection hv with hv
  have hc : c = some p.g := litQ_inj (by rw [show litQ c = y.1 by rw [← hv], ← hz]; rfl)
  subst hc
  exact hMore p w' cnt' (hM.mem_iff.1 hp) hlk ⟨M, n, hrg, hM, hL, fun l hl => hleft l (by simp only [Bool.and_eq_true] at hl; exact hl.1)⟩ hlt hgr hsz hen
/-- delete in the round -/
theorem wpList_delRQ (w : World) (hg : o.guard = none) (m y : Operand) (hop : o.op = Op.call { callee := Callee.builtin Builtin.delete, args := #[m, y], argTypes := #[97, 102] }) (b r : Nat) (L : List KE) (left : Lit → Bool) (cnt : Nat) (hm : a.eval m = .map (some b)) (h : RangesQ w b r L left cnt) (nm : Bs) (ty : Int) (hy : a.eval y = .agg #[.string ⟨nm.toArray⟩, .int .i64 ty]) (hk : KOk nm ty)
    (hK : ∀ w' cnt', RangesQ w' b r (dropQ L nm ty) (fun z => left z && !z.sameKey (kl nm ty)) cnt' → cnt' ≤ cnt → w.mapTurned w' b → wpList Try.prog ops Q rest (a.put o.dst (.tuple #[])) w') : wpList Try.prog ops Q (o :: rest) a w := by
  obtain ⟨M, n, h, hM, hL, hleft⟩ := h
  have hMo : AllOk M := fun p hp => hL p (hM.mem_iff.1 hp)
  refine wpList_delete_ranges w hg m y 97 102 hop 103 KC Try.underlying97 RQ b r n (dmQ M) left cnt hm h _ _ hy (keyK hk.1 hk.2) fun w' cnt' h1 hle h2 => hK w' cnt' ?_ hle h2
  rw [dmQ_del hMo hk] at h1
  refine ⟨_, n, h1, hM.filter _, fun p hp => hL p (List.mem_filter.1 hp).1, fun l hl => ?_⟩
  simp only [Bool.and_eq_true, Bool.not_eq_true'] at hl
  rw [← dmQ_del hMo hk]
  have := hleft l hl.1
  simp only [dmQ, Maps.has, DataW.del, List.any_eq_true] at this ⊢
  obtain ⟨x, hx, hxl⟩ := this
  refine ⟨x, List.mem_filter.2 ⟨hx, ?_⟩, hxl⟩
  obtain ⟨p, hp, rfl⟩ := List.mem_map.1 hx
  cases hs : (entQ p).1.sameKey (kl nm ty)
  · rfl
  · exfalso
    have e : (entQ p).1 = kl nm ty := by simpa [entQ, kl, Lit.sameKey] using hs
    rw [e] at hxl
    have h3 : l = kl nm ty := by
      cases l <;> simp [kl, Lit.sameKey] at hxl ⊢
      exact hxl.symm
    rw [h3] at hl
    simp [kl, Lit.sameKey] at hl
end
end Go.Proofs.Ytijmbpokglohbaa
