/-
  A region that draws its order is walked in the order of its text, if a Bool over its operations holds and the post bears no panic.
  Worlds: which blocks a call may have changed; slices that are owned; append, clear and loads as laws of a walk.
  More laws of walks: append from any cells.
  A range over an iterator of one's own that keeps its state in a cell (block cb): the statement's law, out of the machine's steps.
  Names, plainly: what a name's bytes yield, its labels.
  Strings as lists of bytes, in a walk.
  name.labels, name.cut.
  name.cut.
-/
import Derived.Orders
import Derived.Tactics
import Derived.KernelRfl
import Derived.WalkKit
import Derived.Lib.Hide
import Derived.WalkSpells
import Derived.WalkLawsBesides
import Derived.RangeFuncRecord
import Derived.RangeFuncCalls
import Derived.RangeFuncSeq
import Derived.Shelf.Abstract
import Derived.RangeFuncNested
import Derived.RangeFuncBound
import Derived.Shelf.RegionOpen
import Derived.OwnWalkIn
import Derived.TacticsInMore
import Derived.LoopNIn
import Derived.LoopIn
import Derived.Test.YtijmbpokglohbaaRows
namespace Go.Proofs.Ytijmbpokglohbaa
set_option linter.unusedSimpArgs false
set_option linter.unusedVariables false

theorem orMap {a b c d : Prop} (h : a ∨ b) (f : a → c) (g : b → d) : c ∨ d := h.elim (fun x => .inl (f x)) (fun x => .inr (g x))
/-- the second world holds the first one's blocks -/
def Ext (w w' : World) : Prop := w.heap.size ≤ w'.heap.size ∧ ∀ b, b < w.heap.size → w'.heap[b]? = w.heap[b]?
theorem Ext.refl (w : World) : Ext w w := ⟨Nat.le_refl _, fun _ _ => rfl⟩
theorem Ext.trans {a b c : World} (h : Ext a b) (k : Ext b c) : Ext a c :=
  ⟨Nat.le_trans h.1 k.1, fun i hi => (k.2 i (Nat.lt_of_lt_of_le hi h.1)).trans (h.2 i hi)⟩

/-! what an operation that ends well does to the world: nothing, and the same in every world (calm); it makes new blocks at the most (meek); it never ends well (dies) -/
def Calm {α : Type} (P : Program) (e : Sem α) : Prop := ∀ w w' x, e.run P w = .ok x w' → w' = w ∧ ∀ u, e.run P u = .ok x u
def Meek {α : Type} (P : Program) (e : Sem α) : Prop := ∀ w w' x, e.run P w = .ok x w' → Ext w w'
def Dies {α : Type} (P : Program) (e : Sem α) : Prop := ∀ w w' x, e.run P w ≠ .ok x w'
section
variable {α β : Type} {P : Program}
theorem Dies.calm {e : Sem α} (h : Dies P e) : Calm P e := fun w w' x hx => absurd hx (h w w' x)
theorem Calm.meek {e : Sem α} (h : Calm P e) : Meek P e := fun w w' x hx => by obtain ⟨rfl, _⟩ := h w w' x hx; exact Ext.refl _
theorem Dies.meek {e : Sem α} (h : Dies P e) : Meek P e := h.calm.meek
theorem calm_pure (x : α) : Calm P (Pure.pure x : Sem α) := fun w w' y h => by
  simp only [Sem.run_pure, Result.ok.injEq] at h; obtain ⟨rfl, rfl⟩ := h; exact ⟨rfl, fun _ => rfl⟩
theorem dies_halt (h : Halt) : Dies P (Sem.halt h : Sem α) := fun w w' x hx => by simp at hx
theorem dies_stuck (s : String) : Dies P (stuck s : Sem α) := dies_halt _
theorem dies_unsupported (s : Unsupported) : Dies P (unsupported s : Sem α) := dies_halt _
theorem dies_goPanic (v : Value) : Dies P (goPanic v : Sem α) := dies_halt _
theorem ok_bind {e : Sem α} {f : α → Sem β} {w w' : World} {x : β} (h : (e >>= f).run P w = .ok x w') : ∃ y w1, e.run P w = .ok y w1 ∧ (f y).run P w1 = .ok x w' := by
  rw [Sem.run_bind] at h
  cases he : e.run P w with
  | ok y w1 => rw [he] at h; exact ⟨y, w1, rfl, h⟩
  | halt y w1 => rw [he] at h; cases h
theorem calm_bind {e : Sem α} {f : α → Sem β} (h : Calm P e) (hf : ∀ x, Calm P (f x)) : Calm P (e >>= f) := fun w w' x hx => by
  obtain ⟨y, w1, h1, h2⟩ := ok_bind hx
  obtain ⟨rfl, h3⟩ := h _ _ _ h1
  obtain ⟨rfl, h4⟩ := hf _ _ _ _ h2
  exact ⟨rfl, fun u => by rw [Sem.run_bind, h3 u]; exact h4 u⟩
theorem meek_bind {e : Sem α} {f : α → Sem β} (h : Meek P e) (hf : ∀ x, Meek P (f x)) : Meek P (e >>= f) := fun w w' x hx => by
  obtain ⟨y, w1, h1, h2⟩ := ok_bind hx
  exact (h _ _ _ h1).trans (hf _ _ _ _ h2)
theorem dies_bind {e : Sem α} {f : α → Sem β} (hf : ∀ x, Dies P (f x)) : Dies P (e >>= f) := fun w w' x hx => by
  obtain ⟨y, w1, h1, h2⟩ := ok_bind hx
  exact hf _ _ _ _ h2
theorem dies_bind_left {e : Sem α} {f : α → Sem β} (h : Dies P e) : Dies P (e >>= f) := fun w w' x hx => by
  obtain ⟨y, w1, h1, h2⟩ := ok_bind hx
  exact h _ _ _ h1
theorem calm_program : Calm P program := fun w w' x hx => by
  simp only [run_program, Result.ok.injEq] at hx; obtain ⟨rfl, rfl⟩ := hx; exact ⟨rfl, fun _ => rfl⟩
theorem calm_map {e : Sem α} {f : α → β} (h : Calm P e) : Calm P (f <$> e) := fun w w' x hx => by
  rw [Sem.run_map] at hx
  cases he : e.run P w with
  | ok y w1 =>
    rw [he] at hx; simp only [Result.andThen_ok, Result.ok.injEq] at hx; obtain ⟨rfl, rfl⟩ := hx
    obtain ⟨rfl, h3⟩ := h _ _ _ he
    exact ⟨rfl, fun u => by rw [Sem.run_map, h3 u]; rfl⟩
  | halt y w1 => rw [he] at hx; cases hx
theorem meek_choose (q : Question) : Meek P (choose q) := fun w w' x hx => by
  rw [run_choose] at hx; split at hx <;> (simp only [Result.ok.injEq] at hx; obtain ⟨_, rfl⟩ := hx; exact Ext.refl _)
theorem meek_shape (r : Nat) : Meek P (shape r) := fun w w' x hx => by simp only [run_shape, Result.ok.injEq] at hx; obtain ⟨_, rfl⟩ := hx; exact Ext.refl _
theorem meek_newObj (o : Obj) : Meek P (newObj o) := fun w w' x hx => by
  simp only [run_newObj, Result.ok.injEq] at hx; obtain ⟨_, rfl⟩ := hx
  refine ⟨by simp, fun b hb => ?_⟩
  simp only [Array.getElem?_push]; rw [if_neg (by omega)]
theorem meek_getObj (r : Nat) : Meek P (getObj r) := fun w w' x hx => by
  simp only [getObj, Sem.run] at hx
  split at hx <;> first | (cases hx; done) | (simp only [Result.ok.injEq] at hx; obtain ⟨_, rfl⟩ := hx; exact Ext.refl _)
theorem meek_load (a : Addr) (m : Mode) : Meek P (load a m) := fun w w' x hx => by
  rw [run_load] at hx
  split at hx
  · simp only [Result.ok.injEq] at hx; obtain ⟨_, rfl⟩ := hx; exact Ext.refl _
  · split at hx
    · simp only [Result.ok.injEq] at hx; obtain ⟨_, rfl⟩ := hx; exact Ext.refl _
    · cases hx
theorem meek_askRoom (n : Nat) : Meek P (askRoom n) := fun w w' x hx => by simp only [run_askRoom, Result.ok.injEq] at hx; obtain ⟨_, rfl⟩ := hx; exact Ext.refl _

theorem calm_typeInfo (t : TypeId) : Calm P (typeInfo t) := calm_bind calm_program fun p => by split; exact calm_pure _; exact (dies_stuck _).calm
theorem calm_underlying (t : TypeId) : Calm P (underlying t) := calm_bind calm_program fun p => by split; exact calm_pure _; exact (dies_stuck _).calm
theorem calm_sizeOf (t : TypeId) : Calm P (sizeOf t) := calm_bind (calm_typeInfo t) fun _ => calm_pure _
theorem calm_zeroValue (t : TypeId) : Calm P (zeroValue t) := calm_bind (calm_typeInfo t) fun _ => by split; exact calm_pure _; exact (dies_unsupported _).calm
theorem calm_isAgg (t : TypeId) : Calm P (isAgg t) := calm_bind (calm_underlying t) fun _ => by split <;> exact calm_pure _
theorem calm_part (t : TypeId) (cs : Array Value) (o : Nat) : Calm P (part t cs o) := calm_bind (calm_isAgg t) fun b => by
  cases b
  · simp only [Bool.false_eq_true, if_false]; split; exact calm_pure _; exact (dies_stuck _).calm
  · simp only [if_true]; exact calm_bind (calm_sizeOf t) fun _ => calm_pure _
theorem calm_asIntOf (v : Value) : Calm P (asIntOf v) := by
  unfold asIntOf; split; exact calm_pure _; exact (dies_unsupported _).calm; exact (dies_stuck _).calm
theorem calm_asInt (v : Value) : Calm P (asInt v) := calm_bind (calm_asIntOf v) fun _ => calm_pure _
theorem calm_asBool (v : Value) : Calm P (asBool v) := by unfold asBool; split; exact calm_pure _; exact (dies_stuck _).calm
theorem calm_asAgg (v : Value) : Calm P (asAgg v) := by unfold asAgg; split; exact calm_pure _; exact (dies_stuck _).calm
theorem calm_sureAddr (v : Value) : Calm P (Instr.sureAddr v) := by unfold Instr.sureAddr; split; exact calm_pure _; exact (dies_stuck _).calm
theorem dies_runtimePanic (e : RuntimeError) : Dies P (runtimePanic e : Sem α) := by
  unfold runtimePanic
  refine dies_bind fun p => ?_
  cases e <;> first | exact dies_goPanic _ | (refine dies_bind fun _ => ?_; first | exact dies_goPanic _ | (refine dies_bind fun _ => ?_; exact dies_goPanic _))
theorem dies_boundsPanic (k : IntKind) (x y : Int) (c : BoundsCode) : Dies P (boundsPanic k x y c : Sem α) := by
  unfold boundsPanic; dsimp only; split <;> exact dies_bind fun _ => dies_runtimePanic _
theorem calm_asAddr (v : Value) : Calm P (asAddr v) := by
  unfold asAddr; split; exact calm_pure _; exact (dies_runtimePanic _).calm; exact (dies_stuck _).calm
theorem calm_ite {c : Prop} [Decidable c] {x y : Sem α} (hx : Calm P x) (hy : Calm P y) : Calm P (if c then x else y) := by split; exact hx; exact hy
theorem meek_ite {c : Prop} [Decidable c] {x y : Sem α} (hx : Meek P x) (hy : Meek P y) : Meek P (if c then x else y) := by split; exact hx; exact hy
end

theorem calm_sliceBound {P : Program} (x : Value) (y : Nat) (c : BoundsCode) : Calm P (Instr.sliceBound x y c) := by
  unfold Instr.sliceBound
  exact calm_bind (calm_asIntOf x) fun _ => calm_ite (calm_pure _) (dies_boundsPanic _ _ _ _).calm
theorem calm_sliceBounds {P : Program} (s : Bool) (l c : Nat) (a b m : Option Value) : Calm P (Instr.sliceBounds s l c a b m) := by
  unfold Instr.sliceBounds
  cases a <;> cases b <;> cases m <;> dsimp only <;>
    (repeat' (first | exact calm_pure _ | exact calm_sliceBound _ _ _ | exact (dies_stuck _).calm | (refine calm_bind ?_ ?_) | (intro _)))
theorem calm_slice {P : Program} (t : TypeId) (x : Value) (a b m : Option Value) : Calm P (Instr.slice t x a b m) := by
  unfold Instr.slice
  refine calm_bind (calm_underlying t) fun d => ?_
  split
  · dsimp only
    split
    · exact calm_bind (dies_stuck _).calm fun _ => calm_bind (calm_sliceBounds _ _ _ _ _ _) fun _ => calm_pure _
    · exact calm_bind (calm_sliceBounds _ _ _ _ _ _) fun _ => calm_pure _
  · exact calm_bind (calm_sliceBounds _ _ _ _ _ _) fun _ => calm_bind (calm_sizeOf _) fun _ => calm_pure _
  · refine calm_bind (calm_asAddr _) fun _ => calm_bind (calm_underlying _) fun d => ?_
    split
    · exact calm_bind (calm_sliceBounds _ _ _ _ _ _) fun _ => calm_bind (calm_sizeOf _) fun _ => calm_pure _
    · exact (dies_stuck _).calm
  · exact (dies_stuck _).calm
theorem calm_sliceAt {P : Program} (t : TypeId) (x : Value) (a b m : Option Value) : Calm P (Instr.sliceAt t x a b m) := by
  unfold Instr.sliceAt
  refine calm_bind (calm_underlying t) fun d => ?_
  split
  · exact calm_bind (calm_sureAddr _) fun _ => calm_bind (calm_sliceBounds _ _ _ _ _ _) fun _ => calm_bind (calm_sizeOf _) fun _ => calm_pure _
  · exact calm_slice _ _ _ _ _
theorem calm_extract {P : Program} (t : Value) (i : Nat) : Calm P (Instr.extract t i) := by
  unfold Instr.extract; split
  · split; exact calm_pure _; exact (dies_stuck _).calm
  · exact (dies_stuck _).calm
theorem calm_field {P : Program} (t : TypeId) (x : Value) (i : Nat) : Calm P (Instr.field t x i) := by
  unfold Instr.field
  refine calm_bind (calm_underlying t) fun d => ?_
  split
  · split
    · exact calm_bind (calm_asAgg _) fun _ => calm_part _ _ _
    · exact (dies_stuck _).calm
  · exact (dies_stuck _).calm
theorem calm_indexAt {P : Program} (t : TypeId) (x i : Value) : Calm P (Instr.indexAt t x i) := by
  unfold Instr.indexAt
  refine calm_bind (calm_asIntOf _) fun ki => calm_bind (calm_underlying _) fun d => ?_
  dsimp only
  have h1 : ∀ (b : Option Addr × Nat × TypeId), Calm P (match b with
      | (base, len, elem) => do
        let d' ← underlying t
        match base with
          | some a =>
            if 0 ≤ ki.snd ∧ ki.snd < ↑len then do
              let n ← sizeOf elem
              pure (Value.pointer (some (a.add (ki.snd.toNat * n))))
            else
              if (decide (len ≤ 1) && match d' with | TypeDesc.array len elem => true | x => false) = true then
                unsupported
                  (Unsupported.noEntry "op/indexAddr.an index out of range at an array of length 0 or 1 (ledger 616)")
              else boundsPanic ki.fst ki.snd (↑len) BoundsCode.index
          | none => boundsPanic ki.fst ki.snd 0 BoundsCode.index : Sem Value) := fun b => by
    obtain ⟨base, len, elem⟩ := b
    dsimp only
    refine calm_bind (calm_underlying _) fun d' => ?_
    split
    · exact calm_ite (calm_bind (calm_sizeOf _) fun _ => calm_pure _) (calm_ite (dies_unsupported _).calm (dies_boundsPanic _ _ _ _).calm)
    · exact (dies_boundsPanic _ _ _ _).calm
  split
  · exact calm_bind (calm_sureAddr _) fun _ => calm_bind (calm_pure _) fun _ => h1 _
  · exact calm_bind (calm_pure _) fun _ => h1 _
  · exact calm_bind (dies_stuck _).calm fun _ => h1 _
theorem calm_index {P : Program} (t : TypeId) (x i : Value) : Calm P (Instr.index t x i) := by
  unfold Instr.index
  refine calm_bind (calm_asIntOf _) fun ki => calm_bind (calm_underlying _) fun d => ?_
  split
  · exact calm_ite (calm_bind (calm_sizeOf _) fun _ => calm_part _ _ _) (dies_boundsPanic _ _ _ _).calm
  · split
    · exact calm_pure _
    · exact (dies_boundsPanic _ _ _ _).calm
  · exact (dies_stuck _).calm
theorem calm_unary {P : Program} (o : UnOp) (x : Value) : Calm P (Op.unary o x) := by
  unfold Op.unary; split
  · exact calm_pure _
  · unfold Op.intBits; exact calm_pure _
  · exact calm_pure _
  · exact calm_pure _
  · exact calm_pure _
  · exact (dies_unsupported _).calm
  · exact (dies_unsupported _).calm
  · exact (dies_stuck _).calm
theorem calm_makeInterface {P : Program} (t : TypeId) (x : Value) : Calm P (Instr.makeInterface t x) := by
  unfold Instr.makeInterface
  refine calm_bind (calm_underlying t) fun d => ?_
  split; exact (dies_stuck _).calm; exact calm_pure _
theorem calm_mapM {P : Program} {α β : Type} (f : α → Sem β) (hf : ∀ x, Calm P (f x)) (l : List α) : Calm P (l.mapM f) := by
  induction l with
  | nil => exact calm_pure _
  | cons x l ih => rw [List.mapM_cons]; exact calm_bind (hf x) fun _ => calm_bind ih fun _ => calm_pure _
theorem calm_amapM {P : Program} {α β : Type} (f : α → Sem β) (hf : ∀ x, Calm P (f x)) (l : Array α) : Calm P (l.mapM f) := by
  rw [Array.mapM_eq_mapM_toList]; exact calm_map (calm_mapM f hf _)
theorem calm_build {P : Program} (t : TypeId) (ps : Array (Nat × Value)) : Calm P (Instr.build t ps) := by
  unfold Instr.build
  refine calm_bind (calm_zeroValue t) fun z => calm_bind (calm_underlying t) fun d => ?_
  split
  · refine calm_bind (calm_amapM _ (fun _ => calm_bind (calm_sizeOf _) fun _ => calm_pure _) _) fun _ => ?_
    split; exact calm_pure _; exact (dies_stuck _).calm
  · refine calm_bind (calm_sizeOf _) fun _ => ?_
    split; exact calm_pure _; exact (dies_stuck _).calm
  · exact (dies_stuck _).calm
theorem calm_followBlind {P : Program} : ∀ (l : List FieldStep) (t : TypeId) (x : Option Value), Calm P (followBlind l t x)
  | [], t, x => by unfold followBlind; exact calm_pure _
  | s :: rest, t, x => by
    unfold followBlind
    refine calm_bind (calm_underlying _) fun d => ?_
    split
    · split
      · split
        · exact calm_pure _
        · exact calm_followBlind rest _ _
        · exact (dies_stuck _).calm
        · exact calm_pure _
        · exact calm_bind (calm_part _ _ _) fun _ => calm_followBlind rest _ _
        · exact (dies_stuck _).calm
        · exact calm_followBlind rest _ _
      · exact (dies_stuck _).calm
    · exact (dies_stuck _).calm
theorem calm_nilAhead {P : Program} : ∀ (n : Nat) (t : TypeId) (v : Value) (s : String), Calm P (nilAhead n t v s)
  | 0, _, _, _ => by unfold nilAhead; exact calm_pure _
  | n + 1, t, v, s => by
    unfold nilAhead
    refine calm_bind (calm_typeInfo _) fun i => ?_
    split
    · refine calm_bind (calm_followBlind _ _ _) fun r => ?_
      split
      · exact calm_pure _
      · split
        · exact calm_nilAhead n _ _ _
        · exact calm_pure _
        · exact (dies_stuck _).calm
        · exact calm_pure _
        · exact calm_pure _
        · refine calm_bind (calm_underlying _) fun d => ?_
          split <;> exact calm_pure _
    · exact (dies_stuck _).calm

theorem calm_intArith {P : Program} (o : BinOp) (k : IntKind) (x y : Int) : Calm P (Op.intArith o k x y) := by
  unfold Op.intArith; split <;> first | exact calm_pure _ | exact (dies_stuck _).calm
theorem calm_intDiv {P : Program} (o : BinOp) (k : IntKind) (x y : Int) : Calm P (Op.intDiv o k x y) := by
  unfold Op.intDiv; split
  · exact (dies_runtimePanic _).calm
  · split <;> first | exact calm_pure _ | exact (dies_stuck _).calm
theorem calm_intBits {P : Program} (o : BinOp) (k : IntKind) (x y : Int) : Calm P (Op.intBits o k x y) := by
  unfold Op.intBits; dsimp only; split <;> first | exact calm_pure _ | exact (dies_stuck _).calm
theorem calm_intCmp {P : Program} (o : BinOp) (x y : Int) : Calm P (Op.intCmp o x y) := by
  unfold Op.intCmp; split <;> first | exact calm_pure _ | exact (dies_stuck _).calm
theorem calm_shift {P : Program} (o : BinOp) (k k' : IntKind) (x y : Int) : Calm P (Op.shift o k x k' y) := by
  unfold Op.shift; split
  · exact (dies_runtimePanic _).calm
  · dsimp only; split <;> first | exact calm_pure _ | exact (dies_stuck _).calm
theorem meek_floatArith {P : Program} (o : BinOp) (k : FloatKind) (x y : Nat) : Meek P (Op.floatArith o k x y) := by
  unfold Op.floatArith; dsimp only
  split <;> (refine meek_bind (by first | exact (calm_pure _).meek | exact (dies_stuck _).meek) fun r => ?_) <;>
    (cases r <;> first | exact (calm_pure _).meek | exact meek_bind (meek_choose _) fun _ => (calm_pure _).meek)
theorem calm_floatCmp {P : Program} (o : BinOp) (k : FloatKind) (x y : Nat) : Calm P (Op.floatCmp o k x y) := by
  unfold Op.floatCmp; dsimp only; split <;> first | exact calm_pure _ | exact (dies_stuck _).calm
theorem calm_stringOp {P : Program} (o : BinOp) (x y : ByteArray) : Calm P (Op.stringOp o x y) := by
  unfold Op.stringOp; dsimp only
  split <;> first | exact calm_pure _ | exact (dies_stuck _).calm | exact calm_ite (dies_unsupported _).calm (calm_pure _)
theorem meek_viewAt {P : Program} (r : Nat) : Meek P (viewAt r) := by
  unfold viewAt
  refine meek_bind (meek_shape r) fun o => ?_
  split
  · exact (calm_pure _).meek
  · refine meek_bind (meek_getObj r) fun o => ?_
    split <;> exact (calm_pure _).meek
theorem meek_numberAt {P : Program} (r : Nat) : Meek P (numberAt r) := by
  unfold numberAt
  refine meek_bind (meek_shape r) fun o => ?_
  split
  · exact (calm_pure _).meek
  · refine meek_bind (meek_getObj r) fun o => ?_
    split <;> exact (calm_pure _).meek
theorem meek_behindNumber {P : Program} (a : Addr) : Meek P (behindNumber a) := meek_bind (meek_numberAt _) fun _ => (calm_pure _).meek
theorem meek_asNumber {P : Program} (a : Addr) (b : Bool) : Meek P (asNumber a b) := meek_bind (meek_newObj _) fun _ => (calm_pure _).meek
theorem meek_noView {P : Program} (a : Addr) : Meek P (noView a) := by
  unfold noView
  refine meek_bind (meek_viewAt _) fun o => ?_
  split
  · exact (dies_unsupported _).meek
  · exact (calm_pure _).meek
theorem meek_byteOf {P : Program} (a : Addr) : Meek P (byteOf a) := by
  unfold byteOf
  dsimp only
  split
  · exact (calm_pure _).meek
  · refine meek_bind calm_program.meek fun p => meek_bind (meek_noView _) fun _ => meek_bind (meek_shape _) fun o => ?_
    split
    · split
      · exact (calm_pure _).meek
      · split
        · exact (calm_pure _).meek
        · exact (dies_stuck _).meek
    · exact (dies_stuck _).meek
theorem meek_unsafeAdd {P : Program} (ts : Array TypeId) (t : TypeId) (x y : Value) : Meek P (Builtin.unsafeAdd_ ts t #[x, y]) := by
  cases x with
  | pointer ptr =>
    unfold Builtin.unsafeAdd_
    refine meek_bind (calm_asInt _).meek fun n => ?_
    cases ptr with
    | none =>
      dsimp only
      split
      · exact (dies_bind_left (dies_unsupported _)).meek
      · split
        · exact (dies_bind_left (dies_unsupported _)).meek
        · exact (dies_unsupported _).meek
    | some a =>
      dsimp only
      have hrest : Meek P (do
          let o ← shape a.block
          match o with
          | some (e, cells) => do
            let p ← program
            match cellAtBytes p p.depth e (cells / p.cellsOf e) a.off n with
            | some off => pure (Value.pointer (some { block := a.block, off := off, spot := a.spot }))
            | none => unsupported (Unsupported.unsafePointer "Add")
          | x => unsupported (Unsupported.unsafePointer "Add") : Sem Value) := by
        refine meek_bind (meek_shape _) fun o => ?_
        split
        · refine meek_bind calm_program.meek fun p => ?_
          split
          · exact (calm_pure _).meek
          · exact (dies_unsupported _).meek
        · exact (dies_unsupported _).meek
      split
      · refine meek_bind (meek_viewAt _) fun v => ?_
        split
        · exact (dies_bind_left (dies_unsupported _)).meek
        · exact (calm_pure _).meek
      · split
        · exact (dies_bind_left (dies_unsupported _)).meek
        · exact hrest
  | _ => exact (dies_stuck _).meek
theorem meek_movedNumber {P : Program} (t : TypeId) (x y : Value) : Meek P (movedNumber t x y) := by
  unfold movedNumber
  refine meek_bind (calm_underlying _).meek fun d => ?_
  dsimp only
  have hrest : Meek P (match x with
      | .pointer (some n) => do
        let __x ← behindNumber n
        match __x with
        | (a, lost) => do
          let r ← Builtin.unsafeAdd_ #[] t #[.pointer (some a), y]
          match r with
          | .pointer (some b) => asNumber b lost
          | v => pure v
      | _ => Builtin.unsafeAdd_ #[] t #[x, y] : Sem Value) := by
    split
    · refine meek_bind (meek_behindNumber _) fun ab => ?_
      obtain ⟨a, lost⟩ := ab
      refine meek_bind (meek_unsafeAdd _ _ _ _) fun r => ?_
      split
      · exact meek_asNumber _ _
      · exact (calm_pure _).meek
    · exact meek_unsafeAdd _ _ _ _
  split
  · exact (dies_bind_left (dies_unsupported _)).meek
  · exact hrest
theorem meek_movedPointer {P : Program} (t : TypeId) (x y : Value) : Meek P (movedPointer t x y) := by
  unfold movedPointer
  dsimp only
  split
  · refine meek_bind (meek_numberAt _) fun o => ?_
    split
    · exact (dies_bind_left (dies_unsupported _)).meek
    · exact meek_unsafeAdd _ _ _ _
  · exact meek_unsafeAdd _ _ _ _

theorem meek_floatToFloat {P : Program} (a : FloatKind) (x : Nat) (b : FloatKind) : Meek P (Conv.floatToFloat a x b) := by
  unfold Conv.floatToFloat
  (repeat' (first | with_reducible exact (calm_pure _).meek | with_reducible exact (dies_stuck _).meek | with_reducible exact (dies_unsupported _).meek | with_reducible exact meek_choose _ | (with_reducible refine meek_bind ?_ (fun _ => ?_)) | split | dsimp only))
theorem meek_carith {P : Program} (o : BinOp) (k : FloatKind) (x y : Nat) : Meek P (Op.Complex.arith o k x y) := by
  unfold Op.Complex.arith
  refine meek_bind (meek_floatArith _ _ _ _) fun v => ?_
  split <;> first | exact (calm_pure _).meek | exact (dies_stuck _).meek
theorem meek_ccmp {P : Program} (o : BinOp) (k : FloatKind) (x y : Nat) : Meek P (Op.Complex.cmp o k x y) :=
  meek_bind (calm_floatCmp _ _ _ _).meek fun _ => (calm_asBool _).meek
theorem meek_cconv {P : Program} (a : FloatKind) (x : Nat) (b : FloatKind) : Meek P (Op.Complex.conv a x b) := by
  unfold Op.Complex.conv
  split
  · exact (calm_pure _).meek
  · refine meek_bind (meek_floatToFloat _ _ _) fun v => ?_
    split <;> first | exact (calm_pure _).meek | exact (dies_stuck _).meek
theorem meek_cprod {P : Program} (a b c d : Nat) : Meek P (Op.Complex.product a b c d) := by
  unfold Op.Complex.product Op.Complex.sub Op.Complex.mul Op.Complex.add
  (repeat' (first | with_reducible exact (calm_pure _).meek | with_reducible exact meek_carith _ _ _ _ | (with_reducible refine meek_bind ?_ (fun _ => ?_))))
theorem meek_ccorr {P : Program} (s a b c d : Nat) : Meek P (Op.Complex.corrected s a b c d) := by
  unfold Op.Complex.corrected Op.Complex.sub Op.Complex.mul Op.Complex.add
  (repeat' (first | with_reducible exact (calm_pure _).meek | with_reducible exact meek_carith _ _ _ _ | (with_reducible refine meek_bind ?_ (fun _ => ?_))))
theorem meek_cquot {P : Program} (a b c d : Nat) : Meek P (Op.Complex.quotient a b c d) := by
  unfold Op.Complex.quotient Op.Complex.sub Op.Complex.mul Op.Complex.add Op.Complex.quo
  (repeat' (first | with_reducible exact (calm_pure _).meek | with_reducible exact meek_carith _ _ _ _ | with_reducible exact meek_ccmp _ _ _ _ | with_reducible exact meek_ccorr _ _ _ _ _ | (with_reducible refine meek_bind ?_ (fun _ => ?_)) | split | dsimp only))
theorem meek_complexOp {P : Program} (o : BinOp) (k : FloatKind) (a b c d : Nat) : Meek P (Op.complexOp o k a b c d) := by
  unfold Op.complexOp
  (repeat' (first | with_reducible exact (calm_pure _).meek | with_reducible exact (dies_stuck _).meek | with_reducible exact meek_carith _ _ _ _ | with_reducible exact meek_ccmp _ _ _ _ | with_reducible exact meek_cconv _ _ _ | with_reducible exact meek_cprod _ _ _ _ | with_reducible exact meek_cquot _ _ _ _ | (with_reducible refine meek_bind ?_ (fun _ => ?_)) | split | dsimp only))
theorem meek_twoPlaces {P : Program} (a b : Addr) : Meek P (Op.twoPlaces a b) := by
  unfold Op.twoPlaces
  (repeat' (first | exact (calm_pure _).meek | exact (dies_unsupported _).meek | exact calm_program.meek | exact meek_byteOf _ | (refine meek_bind ?_ (fun _ => ?_)) | split | dsimp only))
theorem meek_addrSub {P : Program} (k : IntKind) (a b : Addr) : Meek P (Op.addrSub k a b) := meek_bind (meek_twoPlaces _ _) fun _ => (calm_pure _).meek
theorem meek_addrCmp {P : Program} (o : BinOp) (a b : Addr) : Meek P (Op.addrCmp o a b) := by
  unfold Op.addrCmp
  refine meek_bind (meek_twoPlaces _ _) fun _ => ?_
  dsimp only
  split <;> first | exact (calm_pure _).meek | exact (dies_unsupported _).meek
theorem meek_addrMod {P : Program} (k : IntKind) (a : Addr) (n : Int) : Meek P (Op.addrMod k a n) := by
  unfold Op.addrMod
  refine meek_bind (meek_shape _) fun o => ?_
  (repeat' (first | exact (calm_pure _).meek | exact (dies_unsupported _).meek | exact (calm_typeInfo _).meek | exact meek_byteOf _ | (refine meek_bind ?_ (fun _ => ?_)) | split | dsimp only))
/-- an operation on two values, but for '==' and '!=': new blocks at the most -/
theorem meek_binOp {P : Program} (o : BinOp) (t : TypeId) (x y : Value) (h1 : o ≠ .eql) (h2 : o ≠ .neq) : Meek P (binOp o t x y) := by
  unfold binOp
  split
  · exact (calm_shift _ _ _ _ _).meek
  · exact (calm_shift _ _ _ _ _).meek
  · split
    · exact (dies_stuck _).meek
    · split <;> first | exact (calm_intArith _ _ _ _).meek | exact (calm_intDiv _ _ _ _).meek | exact (calm_intBits _ _ _ _).meek | exact (calm_intCmp _ _ _).meek
  · split
    · exact (dies_stuck _).meek
    · split <;> first | exact meek_floatArith _ _ _ _ | exact (calm_floatCmp _ _ _ _).meek
  · split
    · exact (dies_stuck _).meek
    · exact meek_complexOp _ _ _ _ _ _
  · exact (calm_stringOp _ _ _).meek
  · exact absurd rfl h1
  · exact absurd rfl h2
  · refine meek_bind (calm_underlying _).meek fun d => ?_
    split
    · exact meek_movedPointer _ _ _
    · exact meek_movedNumber _ _ _
  · exact meek_movedNumber _ _ _
  · exact meek_movedNumber _ _ _
  · exact meek_bind (meek_behindNumber _) fun _ => meek_bind (meek_behindNumber _) fun _ => meek_addrSub _ _ _
  · exact meek_bind (meek_behindNumber _) fun _ => meek_bind (meek_behindNumber _) fun _ => meek_addrCmp _ _ _
  · exact meek_bind (meek_behindNumber _) fun _ => meek_bind (meek_behindNumber _) fun _ => meek_addrCmp _ _ _
  · exact meek_bind (meek_behindNumber _) fun _ => meek_bind (meek_behindNumber _) fun _ => meek_addrCmp _ _ _
  · exact meek_bind (meek_behindNumber _) fun _ => meek_bind (meek_behindNumber _) fun _ => meek_addrCmp _ _ _
  · exact meek_bind (meek_behindNumber _) fun _ => meek_addrMod _ _ _
  · exact meek_bind (meek_behindNumber _) fun _ => meek_addrMod _ _ _
  · exact meek_bind (meek_behindNumber _) fun _ => meek_addrMod _ _ _
  · exact (dies_unsupported _).meek
  · exact (dies_unsupported _).meek
  · exact (dies_stuck _).meek
theorem calm_eqGuard {P : Program} (o : BinOp) (t : TypeId) (x y : Operand) (a b : Value) (h1 : o ≠ .eql) (h2 : o ≠ .neq) : Calm P (eqGuard o t x y a b) := by
  unfold eqGuard
  have : (!(match o with | .eql | .neq => true | _ => false)) = true := by cases o <;> first | rfl | exact absurd rfl h1 | exact absurd rfl h2
  rw [if_pos (by cases o <;> first | rfl | exact absurd rfl h1 | exact absurd rfl h2)]
  exact calm_pure _
theorem meek_newVar {P : Program} (t : TypeId) (v : Value) : Meek P (newVar t v) := meek_bind (meek_newObj _) fun _ => (calm_pure _).meek
theorem meek_buildSlice {P : Program} (t : TypeId) (n : Nat) (ps : Array (Nat × Value)) : Meek P (Instr.buildSlice t n ps) := by
  unfold Instr.buildSlice
  refine meek_bind (calm_underlying t).meek fun d => ?_
  split
  · refine meek_bind (calm_sizeOf _).meek fun z => ?_
    dsimp only
    have hrest : ∀ (e : TypeId) (size : Nat) (zero : Array Value), Meek P (match Instr.fill (fun i => some (i * size, size)) ((Array.range (n * size)).map (zero[· % zero.size]!)) ps.toList with
        | some cells => do
          let a ← newRow e cells
          pure (Value.slice (some a) n n)
        | _ => stuck "buildSlice: a part of the wrong size" : Sem Value) := fun e size zero => by
      split
      · exact meek_bind (meek_bind (meek_newObj _) fun _ => (calm_pure _).meek) fun _ => (calm_pure _).meek
      · exact (dies_stuck _).meek
    split
    · exact (dies_bind_left (dies_unsupported _)).meek
    · split
      · exact meek_bind (calm_pure _).meek fun _ => hrest _ _ _
      · refine meek_bind (calm_zeroValue _).meek fun _ => hrest _ _ _
  · exact (dies_stuck _).meek

/-- a reading: it leaves the world, and gives the same in each world that holds the first one's blocks -/
def Rd {α : Type} (P : Program) (e : Sem α) : Prop := ∀ w w' x, e.run P w = .ok x w' → w' = w ∧ ∀ u, Ext w u → e.run P u = .ok x u
theorem Calm.rd {α : Type} {P : Program} {e : Sem α} (h : Calm P e) : Rd P e := fun w w' x hx => let ⟨a, b⟩ := h w w' x hx; ⟨a, fun u _ => b u⟩
theorem Rd.meek {α : Type} {P : Program} {e : Sem α} (h : Rd P e) : Meek P e := fun w w' x hx => by obtain ⟨rfl, _⟩ := h w w' x hx; exact Ext.refl _
theorem rd_bind {α β : Type} {P : Program} {e : Sem α} {f : α → Sem β} (h : Rd P e) (hf : ∀ x, Rd P (f x)) : Rd P (e >>= f) := fun w w' x hx => by
  obtain ⟨y, w1, h1, h2⟩ := ok_bind hx
  obtain ⟨rfl, h3⟩ := h _ _ _ h1
  obtain ⟨rfl, h4⟩ := hf _ _ _ _ h2
  exact ⟨rfl, fun u hu => by rw [Sem.run_bind, h3 u hu]; exact h4 u hu⟩
theorem ext_block {w u : World} (h : Ext w u) {b : Nat} {o : Obj} (hb : w.heap[b]? = some o) : u.heap[b]? = some o := by
  rw [h.2 b (Array.getElem?_eq_some_iff.1 hb).1]; exact hb
theorem seen_same {P : Program} {w u : World} (h : Ext w u) {a : Addr} {t : TypeId} {k : Addr} {b : Bool} {r : Array Value × TypeId × (Nat × Nat) × Nat × Value × List (Nat × Nat × List UInt8)}
    (hr : w.seen P a t k b = .ok r) : u.seen P a t k b = .ok r := by
  cases hb : w.heap[a.block]? with
  | some o =>
    have hu := ext_block h hb
    have : u.seen P a t k b = w.seen P a t k b := by unfold World.seen; rw [hb, hu]
    rw [this]; exact hr
  | none =>
    exfalso
    unfold World.seen at hr
    rw [hb] at hr
    simp only [bind, Except.bind, throw, throwThe, MonadExceptOf.throw] at hr
    (repeat' (first | (cases hr; done) | split at hr))
theorem rd_load {P : Program} (a : Addr) (m : Mode) : Rd P (load a m) := fun w w' x hx => by
  rw [run_load] at hx
  cases hc : w.cell? a with
  | some v =>
    rw [hc] at hx
    simp only [Result.ok.injEq] at hx
    obtain ⟨rfl, rfl⟩ := hx
    refine ⟨rfl, fun u hu => ?_⟩
    have hb : a.block < w.heap.size := World.block_lt_of_cell? w a hc
    have : u.cell? a = some v := by rw [← hc]; simp only [World.cell?, hu.2 _ hb]
    rw [run_load, this]
  | none =>
    rw [hc] at hx
    simp only [] at hx
    unfold World.farLoad at hx
    cases hb : w.heap[a.block]? with
    | none => rw [hb] at hx; simp only [] at hx; cases hx
    | some o =>
      rw [hb] at hx
      cases o with
      | view at_ t =>
        simp only [] at hx
        cases hv : w.viewLoad P at_ t a (m == .atomic) with
        | error e => rw [hv] at hx; simp only [] at hx; cases hx
        | ok r =>
          rw [hv] at hx
          simp only [Result.ok.injEq] at hx
          obtain ⟨hx1, rfl⟩ := hx
          refine ⟨rfl, fun u hu => ?_⟩
          have hbu := ext_block hu hb
          have hcu : u.cell? a = none := by simp only [World.cell?, hbu]
          have hvu : u.viewLoad P at_ t a (m == .atomic) = .ok r := by
            unfold World.viewLoad at hv ⊢
            cases hs : w.seen P at_ t a (m == .atomic) with
            | error e => rw [hs] at hv; cases hv
            | ok q => rw [seen_same hu hs]; rw [hs] at hv; exact hv
          rw [run_load, hcu]
          simp only [World.farLoad, hbu, hvu]
          rw [← hx1]
      | _ => simp only [] at hx; cases hx
theorem rd_loadCellsFrom {P : Program} (a : Addr) : ∀ (n i : Nat) (acc : Array Value), Rd P (loadCellsFrom a i n acc)
  | 0, i, acc => (calm_pure _).rd
  | n + 1, i, acc => rd_bind (rd_load _ _) fun v => rd_loadCellsFrom a n (i + 1) (acc.push v)
theorem rd_loadVar {P : Program} (t : TypeId) (a : Addr) : Rd P (loadVar t a) := by
  unfold loadVar
  refine rd_bind (calm_isAgg t).rd fun b => ?_
  cases b
  · exact rd_load _ _
  · exact rd_bind (calm_sizeOf _).rd fun n => rd_bind (rd_loadCellsFrom _ _ _ _) fun _ => (calm_pure _).rd
theorem rd_loadAt {P : Program} (t : TypeId) (v : Value) : Rd P (Instr.loadAt t v) := rd_bind (calm_sureAddr _).rd fun a => rd_loadVar t a
theorem calm_len {P : Program} (t : TypeId) (ty : TypeId) (x : Value) (h : (match P.underlying t with | some .string | some (.slice _) => true | _ => false) = true) : Calm P (Builtin.len_ #[t] ty #[x]) := by
  unfold Builtin.len_
  simp only [List.getElem?_toArray, List.getElem?_cons_zero]
  intro w w' r hr
  obtain ⟨d, w1, h1, h2⟩ := ok_bind hr
  obtain ⟨rfl, h3⟩ := calm_underlying t w w1 d h1
  have hd : P.underlying t = some d := by
    unfold underlying at h1
    obtain ⟨p, w2, h5, h6⟩ := ok_bind h1
    simp only [run_program, Result.ok.injEq] at h5
    obtain ⟨rfl, rfl⟩ := h5
    cases hu : P.underlying t with
    | none => rw [hu] at h6; cases h6
    | some d' => rw [hu] at h6; simp only [Sem.run_pure, Result.ok.injEq] at h6; rw [h6.1]
  rw [hd] at h
  have hc : Calm P (match d, x with
      | .string, .string s => pure (goInt s.size)
      | .slice _, .slice _ n _ => pure (goInt n)
      | _, _ => stuck "" : Sem Value) := by split <;> first | exact calm_pure _ | exact (dies_stuck _).calm
  cases d <;> simp only [] at h <;> try (cases h; done)
  · cases x <;> simp only [] at h2 <;> first
      | (simp only [Sem.run_pure, Result.ok.injEq] at h2; obtain ⟨rfl, rfl⟩ := h2; exact ⟨rfl, fun u => by rw [Sem.run_bind, h3 u]; rfl⟩)
      | (simp only [run_stuck] at h2; cases h2; done)
  · cases x <;> simp only [] at h2 <;> first
      | (simp only [Sem.run_pure, Result.ok.injEq] at h2; obtain ⟨rfl, rfl⟩ := h2; exact ⟨rfl, fun u => by rw [Sem.run_bind, h3 u]; rfl⟩)
      | (simp only [run_stuck] at h2; cases h2; done)

theorem und_of {P : Program} {t : TypeId} {w w1 : World} {d : TypeDesc} (h1 : (underlying t).run P w = .ok d w1) : w1 = w ∧ P.underlying t = some d := by
  obtain ⟨rfl, _⟩ := calm_underlying t w w1 d h1
  refine ⟨rfl, ?_⟩
  unfold underlying at h1
  obtain ⟨p, w2, h5, h6⟩ := ok_bind h1
  simp only [run_program, Result.ok.injEq] at h5
  obtain ⟨rfl, rfl⟩ := h5
  cases hu : P.underlying t with
  | none => rw [hu] at h6; cases h6
  | some d' => rw [hu] at h6; simp only [Sem.run_pure, Result.ok.injEq] at h6; rw [h6.1]
theorem rd_getObj {P : Program} (r : Nat) : Rd P (getObj r) := fun w w' x hx => by
  cases hb : w.heap[r]? with
  | none => simp [getObj, Sem.run, hb] at hx
  | some o =>
    cases o with
    | cells c t f => simp [getObj, Sem.run, hb] at hx
    | _ =>
      simp [getObj, Sem.run, hb] at hx
      obtain ⟨rfl, rfl⟩ := hx
      exact ⟨rfl, fun u hu => by simp [getObj, Sem.run, ext_block hu hb]⟩
/-- a reading behind a type's shape, which is known -/
theorem rd_und {α : Type} {P : Program} {t : TypeId} {d : TypeDesc} (hd : P.underlying t = some d) {f : TypeDesc → Sem α} (hf : Rd P (f d)) : Rd P (underlying t >>= f) := fun w w' x hx => by
  obtain ⟨y, w1, h1, h2⟩ := ok_bind hx
  obtain ⟨rfl, h3⟩ := und_of h1
  rw [hd] at h3
  cases h3
  obtain ⟨rfl, h4⟩ := hf _ _ _ h2
  obtain ⟨_, h5⟩ := calm_underlying t w' w' d h1
  exact ⟨rfl, fun u hu => by rw [Sem.run_bind, h5 u]; exact h4 u hu⟩
def strMap (P : Program) (t : TypeId) : Bool := match P.underlying t with
  | some (.map k _) => match P.underlying k with
    | some .string => true
    | _ => false
  | _ => false
theorem rd_findStr {P : Program} {k : TypeId} (hk : P.underlying k = some .string) (v : Value) : ∀ (es : List MapEntry) (i : Nat), Rd P (Instr.findAsking k v es i)
  | [], _ => (calm_pure _).rd
  | e :: es, i => by
    unfold Instr.findAsking
    refine rd_bind ?_ fun b => ?_
    · unfold Op.equal Op.maxDepth Op.equalIn
      refine rd_und hk ?_
      generalize e.key = y
      split <;> first | exact (calm_pure _).rd | exact (dies_stuck _).calm.rd | exact (dies_unsupported _).calm.rd | (exfalso; simp_all; done)
    · split
      · exact (calm_pure _).rd
      · exact rd_findStr hk v es (i + 1)
theorem rd_lookup {P : Program} (t : TypeId) (x y : Value) (ok : Bool) (h : strMap P t = true) : Rd P (Instr.lookup t x y ok) := by
  unfold strMap at h
  split at h
  · rename_i k e ht
    split at h
    · rename_i hk
      unfold Instr.lookup
      refine rd_und ht ?_
      simp only []
      have hrest : ∀ es : Array MapEntry, Rd P (do
          Instr.checkKey es.isEmpty 10000 k y
          match ← Instr.findKey k y es.toList with
          | some (_, v) => do
            let x ← pure (v, true)
            pure (if ok = true then Value.tuple #[x.1, .bool x.2] else x.1)
          | none => do
            let v ← zeroValue e
            let x ← pure (v, false)
            pure (if ok = true then Value.tuple #[x.1, .bool x.2] else x.1) : Sem Value) := fun es => by
        refine rd_bind ?_ fun _ => rd_bind ?_ fun r => ?_
        · unfold Instr.checkKey
          refine rd_und hk ?_
          split <;> first | exact (calm_pure _).rd | (exfalso; simp_all; done)
        · unfold Instr.findKey
          refine rd_und hk ?_
          split
          · exact (calm_pure _).rd
          · exact rd_findStr hk _ _ _
        · split
          · exact rd_bind (calm_pure _).rd fun _ => (calm_pure _).rd
          · exact rd_bind (calm_zeroValue _).rd fun _ => rd_bind (calm_pure _).rd fun _ => (calm_pure _).rd
      split
      · exact rd_bind (calm_pure _).rd fun es => hrest es
      · refine rd_bind (rd_getObj _) fun o => ?_
        split
        · exact rd_bind (calm_pure _).rd fun es => hrest es
        · exact rd_bind (dies_stuck _).calm.rd fun es => hrest es
      · exact rd_bind (dies_stuck _).calm.rd fun es => hrest es
    · cases h
  · cases h
def lenMap (P : Program) (c : Call) : Bool := match c.callee with
  | .builtin .len => c.args.toList.length == 1 && match c.argTypes.toList with
    | [t] => match P.underlying t with
      | some (.map _ _) => true
      | _ => false
    | _ => false
  | _ => false
theorem rd_lenMap {P : Program} (t ty : TypeId) (x : Value) (h : (match P.underlying t with | some (.map _ _) => true | _ => false) = true) : Rd P (Builtin.len_ #[t] ty #[x]) := by
  split at h
  · rename_i k e ht
    unfold Builtin.len_
    simp only [List.getElem?_toArray, List.getElem?_cons_zero]
    refine rd_und ht ?_
    cases x with
    | map r =>
      cases r with
      | none => exact (calm_pure _).rd
      | some r =>
        refine rd_bind (rd_getObj _) fun o => ?_
        split
        · exact (calm_pure _).rd
        · exact (dies_stuck _).calm.rd
    | _ => exact (dies_stuck _).calm.rd
  · cases h
def lenOf (P : Program) (c : Call) : Bool := match c.callee with
  | .builtin .len => c.args.toList.length == 1 && match c.argTypes.toList with
    | [t] => match P.underlying t with
      | some .string | some (.slice _) => true
      | _ => false
    | _ => false
  | _ => false
def pureOp (P : Program) : Op → Bool
  | .move _ | .assign _ | .pick _ _ _ | .nilCheck _ | .unOp _ _ _ | .makeInterface _ _ | .makeFunc _ _ _ | .slice _ _ _ _ _ | .field _ _ _ | .indexAddr _ _ _ | .index _ _ _ | .extract _ _ | .build _ _ => true
  | .fieldAddr s _ f => match P.underlying s with
    | some (.struct fs) => match fs[f]? with
      | some fd => match P.info? fd.type with
        | some i => i.size != 0
        | none => true
      | none => true
    | _ => true
  | .call c => lenOf P c
  | _ => false
def readOp (P : Program) : Op → Bool
  | .load _ _ => true
  | .lookup t _ _ _ => strMap P t
  | .call c => lenMap P c
  | _ => false
def meekOp (P : Program) (o : Op) : Bool := pureOp P o || readOp P o || match o with
  | .binOp .eql _ _ _ _ | .binOp .neq _ _ _ _ => false
  | .binOp _ _ _ _ _ | .alloc _ | .box _ _ | .buildSlice _ _ _ | .makeMap _ none => true
  | _ => false

def PureEx (P : Program) (e : Sem Next) : Prop := ∀ w w' n, e.run P w = .ok n w' → w' = w ∧ ∃ v, n = .value v ∧ ∀ u, e.run P u = .ok (.value v) u
def RdEx (P : Program) (e : Sem Next) : Prop := ∀ w w' n, e.run P w = .ok n w' → w' = w ∧ ∃ v, n = .value v ∧ ∀ u, Ext w u → e.run P u = .ok (.value v) u
def MeekEx (P : Program) (e : Sem Next) : Prop := ∀ w w' n, e.run P w = .ok n w' → Ext w w' ∧ ∃ v, n = .value v
section
variable {P : Program}
theorem PureEx.rd {e : Sem Next} (h : PureEx P e) : RdEx P e := fun w w' n hn => let ⟨a, v, b, c⟩ := h w w' n hn; ⟨a, v, b, fun u _ => c u⟩
theorem RdEx.meek {e : Sem Next} (h : RdEx P e) : MeekEx P e := fun w w' n hn => by
  obtain ⟨rfl, v, b, _⟩ := h w w' n hn; exact ⟨Ext.refl _, v, b⟩
theorem pureEx_of {s : Sem Value} (h : Calm P s) : PureEx P (do pure (Next.value (← s))) := fun w w' n hn => by
  obtain ⟨y, w1, h1, h2⟩ := ok_bind hn
  obtain ⟨rfl, h3⟩ := h _ _ _ h1
  simp only [Sem.run_pure, Result.ok.injEq] at h2
  obtain ⟨rfl, rfl⟩ := h2
  exact ⟨rfl, y, rfl, fun u => by rw [Sem.run_bind, h3 u]; rfl⟩
theorem rdEx_of {s : Sem Value} (h : Rd P s) : RdEx P (do pure (Next.value (← s))) := fun w w' n hn => by
  obtain ⟨y, w1, h1, h2⟩ := ok_bind hn
  obtain ⟨rfl, h3⟩ := h _ _ _ h1
  simp only [Sem.run_pure, Result.ok.injEq] at h2
  obtain ⟨rfl, rfl⟩ := h2
  exact ⟨rfl, y, rfl, fun u hu => by rw [Sem.run_bind, h3 u hu]; rfl⟩
theorem meekEx_of {s : Sem Value} (h : Meek P s) : MeekEx P (do pure (Next.value (← s))) := fun w w' n hn => by
  obtain ⟨y, w1, h1, h2⟩ := ok_bind hn
  simp only [Sem.run_pure, Result.ok.injEq] at h2
  obtain ⟨rfl, rfl⟩ := h2
  exact ⟨h _ _ _ h1, y, rfl⟩
theorem calm_fieldAt (s : TypeId) (x : Value) (f : Nat) (h : pureOp P (.fieldAddr s (.const x) f) = true) : Calm P (Instr.fieldAt s x f) := fun w w' r hr => by
  unfold Instr.fieldAt at hr
  obtain ⟨d, w1, h1, h2⟩ := ok_bind hr
  obtain ⟨rfl, h3⟩ := calm_underlying s w w1 d h1
  have hd : P.underlying s = some d := by
    unfold underlying at h1
    obtain ⟨p, w2, h5, h6⟩ := ok_bind h1
    simp only [run_program, Result.ok.injEq] at h5
    obtain ⟨rfl, rfl⟩ := h5
    cases hu : P.underlying s with
    | none => rw [hu] at h6; cases h6
    | some d' => rw [hu] at h6; simp only [Sem.run_pure, Result.ok.injEq] at h6; rw [h6.1]
  simp only [pureOp, hd] at h
  cases d <;> simp only [] at h2 <;> try (simp only [run_stuck] at h2; cases h2; done)
  rename_i fs
  simp only [] at h
  cases hf : fs[f]? with
  | none => rw [hf] at h2; simp only [run_stuck] at h2; cases h2
  | some fd =>
    rw [hf] at h2 h
    simp only [] at h2 h
    have hc : Calm P (do let a ← Instr.sureAddr x; pure (Value.pointer (some (← fieldPlace a fd))) : Sem Value) := by
      refine calm_bind (calm_sureAddr _) fun a => calm_bind ?_ fun _ => calm_pure _
      unfold fieldPlace
      intro v v' q hq
      obtain ⟨n, v1, h5, h6⟩ := ok_bind hq
      obtain ⟨rfl, h7⟩ := calm_sizeOf fd.type v v1 n h5
      have hn : n ≠ 0 := by
        unfold sizeOf typeInfo at h5
        obtain ⟨i, v2, h8, h9⟩ := ok_bind h5
        obtain ⟨p, v3, h10, h11⟩ := ok_bind h8
        simp only [run_program, Result.ok.injEq] at h10
        obtain ⟨rfl, rfl⟩ := h10
        cases hi : P.info? fd.type with
        | none => rw [hi] at h11; cases h11
        | some i' =>
          rw [hi] at h11 h
          simp only [Sem.run_pure, Result.ok.injEq] at h11 h9
          obtain ⟨rfl, rfl⟩ := h11
          rw [← h9.1]
          simpa using h
      rw [if_neg hn] at h6
      simp only [Sem.run_pure, Result.ok.injEq] at h6
      obtain ⟨rfl, rfl⟩ := h6
      exact ⟨rfl, fun u => by rw [Sem.run_bind, h7 u, Result.andThen_ok, if_neg hn]; rfl⟩
    obtain ⟨rfl, h4⟩ := hc _ _ _ h2
    refine ⟨rfl, fun u => ?_⟩
    unfold Instr.fieldAt
    rw [Sem.run_bind, h3 u, Result.andThen_ok]
    simp only [hf]
    exact h4 u
theorem pureEx_op (ρ : Operand → Value) (o : Oper) (h : pureOp P o.op = true) : PureEx P (execOp ρ o) := by
  obtain ⟨dst, op, type, pos, after, guard⟩ := o
  cases op <;> simp only [] at h <;> try (simp only [pureOp] at h; cases h; done)
  case move x => exact pureEx_of (s := pure (ρ x)) (calm_pure _)
  case assign x => exact pureEx_of (s := pure (ρ x)) (calm_pure _)
  case pick c a b =>
    intro w w' n hn
    obtain ⟨y, w1, h1, h2⟩ := ok_bind (e := asBool (ρ c)) (f := fun b' => pure (Next.value (if b' then ρ a else ρ b))) hn
    obtain ⟨rfl, h3⟩ := calm_asBool _ _ _ _ h1
    simp only [Sem.run_pure, Result.ok.injEq] at h2
    obtain ⟨rfl, rfl⟩ := h2
    refine ⟨rfl, _, rfl, fun u => ?_⟩
    show (asBool (ρ c) >>= fun b' => pure (Next.value (if b' then ρ a else ρ b))).run P u = _
    rw [Sem.run_bind, h3 u]; rfl
  case build t ps => exact pureEx_of (calm_build _ _)
  case nilCheck x =>
    unfold execOp
    simp only []
    cases ρ x with
    | pointer a => cases a with
      | none => exact fun w w' n hn => absurd hn (dies_runtimePanic _ w w' n)
      | some a => exact pureEx_of (s := pure (Value.pointer (some a))) (calm_pure _)
    | nilIface => exact fun w w' n hn => absurd hn (dies_runtimePanic _ w w' n)
    | nilFunc => exact fun w w' n hn => absurd hn (dies_runtimePanic _ w w' n)
    | func fn first captured =>
      cases fn with
      | method name =>
        simp only []
        cases hf : (first[0]? : Option Value) with
        | none => exact pureEx_of (s := pure (Value.func (.method name) first captured)) (calm_pure _)
        | some v =>
          cases v <;> simp only [] <;> first
            | exact pureEx_of (s := pure (Value.func (.method name) first captured)) (calm_pure _)
            | (exact fun w w' n hn => absurd hn (dies_runtimePanic _ w w' n))
            | skip
          rename_i t v
          intro w w' n hn
          obtain ⟨p, w1, h1, h2⟩ := ok_bind hn
          obtain ⟨rfl, g1⟩ := calm_program _ _ _ h1
          obtain ⟨r, w2, h3, h4⟩ := ok_bind h2
          obtain ⟨rfl, g2⟩ := calm_nilAhead _ _ _ _ _ _ _ h3
          split at h4
          · exact absurd h4 (dies_bind_left (dies_unsupported _) _ _ _)
          · rename_i hneg
            simp only [Sem.run_pure, Result.ok.injEq] at h4
            obtain ⟨rfl, rfl⟩ := h4
            refine ⟨rfl, _, rfl, fun u => ?_⟩
            rw [Sem.run_bind, g1 u, Result.andThen_ok, Sem.run_bind, g2 u, Result.andThen_ok, if_neg hneg]
            rfl
      | _ => exact pureEx_of (s := pure (Value.func _ first captured)) (calm_pure _)
    | _ => exact pureEx_of (s := pure _) (calm_pure _)
  case unOp op t x => exact pureEx_of (calm_unary _ _)
  case makeInterface t x => exact pureEx_of (calm_makeInterface _ _)
  case makeFunc fn f c => exact pureEx_of (s := Instr.makeFunc _ _ _) (calm_pure _)
  case slice t x lo hi mx => exact pureEx_of (calm_sliceAt _ _ _ _ _)
  case fieldAddr s x f => exact pureEx_of (calm_fieldAt _ _ _ h)
  case field t x f => exact pureEx_of (calm_field _ _ _)
  case indexAddr t x i => exact pureEx_of (calm_indexAt _ _ _)
  case index t x i => exact pureEx_of (calm_index _ _ _)
  case extract t i => exact pureEx_of (calm_extract _ _)
  case call c =>
    simp only [pureOp] at h
    obtain ⟨callee, args, argTypes⟩ := c
    cases callee <;> simp only [lenOf] at h <;> try (cases h; done)
    rename_i b
    cases b <;> simp only [] at h <;> try (cases h; done)
    simp only [Bool.and_eq_true, beq_iff_eq] at h
    obtain ⟨h1, h2⟩ := h
    obtain ⟨al⟩ := args
    obtain ⟨tl⟩ := argTypes
    simp only [] at h1 h2
    match al, tl, h1, h2 with
    | [x], [t], _, h2 =>
      have e : execOp ρ { dst, op := .call { callee := .builtin .len, args := ⟨[x]⟩, argTypes := ⟨[t]⟩ }, type, pos, after, guard } = (do pure (Next.value (← Builtin.len_ #[t] type #[ρ x]))) := by
        simp only [execOp, resolve, invoke, builtin, pure_bind, List.map_toArray, List.map_cons, List.map_nil]
      rw [e]
      exact pureEx_of (s := Builtin.len_ #[t] type #[ρ x]) (calm_len _ _ _ h2)
theorem rdEx_op (ρ : Operand → Value) (o : Oper) (h : readOp P o.op = true) : RdEx P (execOp ρ o) := by
  obtain ⟨dst, op, type, pos, after, guard⟩ := o
  cases op <;> simp only [] at h <;> try (simp only [readOp] at h; cases h; done)
  case load => exact rdEx_of (rd_loadAt _ _)
  case lookup t x y ok => exact rdEx_of (rd_lookup t (ρ x) (ρ y) ok h)
  case call c =>
    simp only [readOp] at h
    unfold lenMap at h
    obtain ⟨callee, args, argTypes⟩ := c
    cases callee <;> simp only [] at h <;> try (cases h; done)
    rename_i bu
    cases bu <;> simp only [] at h <;> try (cases h; done)
    rw [Bool.and_eq_true] at h
    obtain ⟨h1, h2⟩ := h
    obtain ⟨al⟩ := args
    obtain ⟨tl⟩ := argTypes
    simp only [] at h1 h2
    match al, tl, h1, h2 with
    | [x], [t], _, h2 =>
      have e : execOp ρ { dst, op := .call { callee := .builtin .len, args := ⟨[x]⟩, argTypes := ⟨[t]⟩ }, type, pos, after, guard } = (do pure (Next.value (← Builtin.len_ #[t] type #[ρ x]))) := by
        simp only [execOp, resolve, invoke, builtin, pure_bind, List.map_toArray, List.map_cons, List.map_nil]
      rw [e]
      exact rdEx_of (s := Builtin.len_ #[t] type #[ρ x]) (rd_lenMap _ _ _ h2)
theorem meekEx_op (ρ : Operand → Value) (o : Oper) (h : meekOp P o.op = true) : MeekEx P (execOp ρ o) := by
  by_cases h1 : pureOp P o.op = true
  · exact (pureEx_op ρ o h1).rd.meek
  by_cases h2 : readOp P o.op = true
  · exact (rdEx_op ρ o h2).meek
  simp only [meekOp, h1, h2, Bool.false_or] at h
  obtain ⟨dst, op, type, pos, after, guard⟩ := o
  cases op <;> simp only [] at h <;> try (cases h; done)
  case alloc t => exact meekEx_of (s := Instr.alloc t true (.tuple #[])) (meek_bind (calm_zeroValue _).meek fun z => meek_bind (meek_newVar _ _) fun _ => (calm_pure _).meek)
  case box t x => exact meekEx_of (s := Instr.box t (ρ x)) (meek_bind (meek_newVar _ _) fun _ => (calm_pure _).meek)
  case buildSlice t n ps => exact meekEx_of (meek_buildSlice _ _ _)
  case binOp bo t x y yt =>
    have e1 : bo ≠ .eql := by rintro rfl; simp only [] at h; cases h
    have e2 : bo ≠ .neq := by rintro rfl; simp only [] at h; cases h
    exact meekEx_of (s := do eqGuard bo t x y (ρ x) (ρ y); binOp bo t (ρ x) (ρ y)) (meek_bind (calm_eqGuard _ _ _ _ _ _ e1 e2).meek fun _ => meek_binOp _ _ _ _ e1 e2)
  case makeMap t r =>
    cases r with
    | none => exact meekEx_of (s := Instr.makeMap t none) (meek_bind (meek_newObj _) fun _ => (calm_pure _).meek)
    | some r => simp only [] at h; cases h
end

/-! ### the exchange -/
/-- a post that bears no panic, and no run that outgrows memory -/
structure NoBad (Q : Exit → Act → World → Prop) : Prop where
  pan : ∀ c a w, ¬ Q (.panic c) a w
  out : ∀ a w, ¬ Q .outgrown a w
theorem NoBad.lets {Q : Exit → Act → World → Prop} (h : NoBad Q) : ¬ LetsOut Q := fun ⟨a, w, q⟩ => h.out a w q
theorem NoBad.then {Q : Exit → Act → World → Prop} {K : Act → World → Prop} (h : NoBad Q) : NoBad (Exit.then K Q) := ⟨h.pan, h.out⟩
theorem NoBad.inBlock {Q : Exit → Act → World → Prop} {n : Nat} (h : NoBad Q) : NoBad (Exit.inBlock n Q) := ⟨h.pan, h.out⟩
theorem NoBad.body {P : Program} {fn : Func} {R : Ending → World → Prop} (h1 : ∀ c w, ¬ R (.panicked c) w) (h2 : ∀ w, ¬ R .outgrown w) : NoBad (bodyPost P fn R) :=
  ⟨fun c a w h => h1 c w h.2, fun a w h => h2 w h⟩
/-- what a call hands back -/
def Rets (φ : Value → World → Prop) : Ending → World → Prop
  | .returned v, w => φ v w
  | _, _ => False
theorem NoBad.rets {P : Program} {fn : Func} {φ : Value → World → Prop} : NoBad (bodyPost P fn (Rets φ)) := NoBad.body (fun _ _ h => h) (fun _ h => h)
theorem _root_.Go.Calls.use {P : Program} {f : FuncId} {args : Array Value} {w : World} {φ : Value → World → Prop} {R : Ending → World → Prop} (h : Calls P f args w (Rets φ)) (k : ∀ v w', φ v w' → R (.returned v) w') : Calls P f args w R :=
  h.mono fun e w' he => by cases e <;> first | exact k _ _ he | exact he.elim

section
variable {P : Program} {ops : Array Oper} {Q : Exit → Act → World → Prop} {md : Region.Mode}
/-- in state a, in every world of C, operation o leaves v -/
def YieldsC (P : Program) (ops : Array Oper) (C : World → Prop) (o : Oper) (v : Value) (a : Act) : Prop :=
  (Region.wanted o (yielded ops a.tmps) = true ∧ ∀ w, C w → (execOp a.eval o).run P w = .ok (.value v) w) ∨ (Region.wanted o (yielded ops a.tmps) = false ∧ v = undef)
theorem YieldsC.of_same {C : World → Prop} {o : Oper} {v : Value} {a a' : Act} (hy : YieldsC P ops C o v a) (he : execOp a'.eval o = execOp a.eval o)
    (hw : Region.wanted o (yielded ops a'.tmps) = Region.wanted o (yielded ops a.tmps)) : YieldsC P ops C o v a' := by
  unfold YieldsC at *; rw [he, hw]; exact hy
theorem YieldsC.wpOp {C : World → Prop} {i : Nat} {o : Oper} {v : Value} {a : Act} (hi : ops[i]? = some o) (hy : YieldsC P ops C o v a) {K : Act → World → Prop} {w : World} (hC : C w) (h : K (a.put o.dst v) w) : wpOp P ops Q i K a w := by
  unfold Go.wpOp
  simp only [hi]
  rcases hy with ⟨hw, hv⟩ | ⟨hw, rfl⟩
  · simp only [hw, if_true, Oper.wp, hv w hC, Oper.upon]; exact .inl h
  · simp only [hw, Bool.false_eq_true, if_false]; exact h
/-- what a reading that went through has left -/
theorem wpOp_rd (hb : NoBad Q) {i : Nat} {o : Oper} {a : Act} {w : World} {K : Act → World → Prop} (hi : ops[i]? = some o) (hr : RdEx P (execOp a.eval o)) (h : wpOp P ops Q i K a w) :
    ∃ v, YieldsC P ops (Ext w) o v a ∧ K (a.put o.dst v) w := by
  unfold Go.wpOp at h
  simp only [hi] at h
  split at h
  · rename_i hw
    rcases h with h | ⟨_, h⟩
    · unfold Oper.wp at h
      cases hrun : (execOp a.eval o).run P w with
      | ok n w' =>
        obtain ⟨rfl, v, rfl, hv⟩ := hr _ _ _ hrun
        rw [hrun] at h
        exact ⟨v, .inl ⟨hw, hv⟩, h⟩
      | halt x w' =>
        rw [hrun] at h
        cases x <;> simp only [Oper.upon] at h
        exact absurd h (hb.pan _ _ _)
    · exact absurd h hb.lets
  · rename_i hw
    exact ⟨undef, .inr ⟨by simpa using hw, rfl⟩, h⟩
theorem wpOp_pure (hb : NoBad Q) {i : Nat} {o : Oper} {a : Act} {w : World} {K : Act → World → Prop} (hi : ops[i]? = some o) (hr : PureEx P (execOp a.eval o)) (h : wpOp P ops Q i K a w) :
    ∃ v, YieldsC P ops (fun _ => True) o v a ∧ K (a.put o.dst v) w := by
  unfold Go.wpOp at h
  simp only [hi] at h
  split at h
  · rename_i hw
    rcases h with h | ⟨_, h⟩
    · unfold Oper.wp at h
      cases hrun : (execOp a.eval o).run P w with
      | ok n w' =>
        obtain ⟨rfl, v, rfl, hv⟩ := hr _ _ _ hrun
        rw [hrun] at h
        exact ⟨v, .inl ⟨hw, fun u _ => hv u⟩, h⟩
      | halt x w' =>
        rw [hrun] at h
        cases x <;> simp only [Oper.upon] at h
        exact absurd h (hb.pan _ _ _)
    · exact absurd h hb.lets
  · rename_i hw
    exact ⟨undef, .inr ⟨by simpa using hw, rfl⟩, h⟩
/-- an operation that went through came to some end; its frame is the old one with one slot written -/
theorem wpOp_tmps (hb : NoBad Q) {i : Nat} {o : Oper} {a : Act} {w : World} {K : Act → World → Prop} (hi : ops[i]? = some o) (h : wpOp P ops Q i K a w) :
    wpOp P ops Q i (fun a1 w1 => K a1 w1 ∧ ∃ v, a1.tmps = (a.put o.dst v).tmps) a w := by
  unfold Go.wpOp at *
  simp only [hi] at *
  split at h
  · rename_i hw
    rw [if_pos hw]
    rcases h with h | ⟨_, h⟩
    · refine .inl ?_
      unfold Oper.wp at *
      generalize (execOp a.eval o).run P w = r at *
      cases r with
      | ok n w' =>
        cases n <;> simp only [Oper.upon] at h ⊢
        case value u => exact ⟨h, u, rfl⟩
        case skip => exact ⟨h, undef, rfl⟩
        case defer d => exact ⟨h, undef, by cases o.dst <;> rfl⟩
        case enter f args =>
          refine Calls.mono h fun e w'' he => ?_
          cases e with
          | returned u => exact ⟨he, u, rfl⟩
          | panicked c => exact he
          | outgrown => exact he
        case row row args => exact Rows.mono h fun u w'' he => ⟨he, u, rfl⟩
      | halt x w' => cases x <;> simp only [Oper.upon] at h ⊢; exact h
    · exact absurd h hb.lets
  · rename_i hw
    rw [if_neg hw]
    exact ⟨h, undef, rfl⟩
theorem wpOp_some (hb : NoBad Q) {i : Nat} {o : Oper} {a : Act} {w : World} {K : Act → World → Prop} (hi : ops[i]? = some o) (h : wpOp P ops Q i K a w) : ∃ a1 w1, K a1 w1 := by
  unfold Go.wpOp at h
  simp only [hi] at h
  split at h
  · rcases h with h | ⟨_, h⟩
    · unfold Oper.wp at h
      generalize (execOp a.eval o).run P w = r at *
      cases r with
      | ok n w' =>
        cases n <;> simp only [Oper.upon] at h
        case value u => exact ⟨_, _, h⟩
        case skip => exact ⟨_, _, h⟩
        case defer d => exact ⟨_, _, h⟩
        case enter f args =>
          obtain ⟨e, w'', fr, hR, _⟩ := h []
          cases e with
          | returned u => exact ⟨_, _, hR⟩
          | panicked c => exact absurd hR (hb.pan _ _ _)
          | outgrown => exact absurd hR hb.lets
        case row row args =>
          obtain ⟨v, w'', hR, _⟩ := h default []
          exact ⟨_, _, hR⟩
      | halt x w' =>
        cases x <;> simp only [Oper.upon] at h
        exact absurd h (hb.pan _ _ _)
    · exact absurd h hb.lets
  · exact ⟨_, _, h⟩
/-- a slot that the operation does not look at may be written first -/
theorem wpOp_back (hb : NoBad Q) {i : Nat} {oi oj : Oper} {u : Value} (hi : ops[i]? = some oi) (hap : oi.apart ops oj = true) (hsi : ∀ cs b, oi.op ≠ .select cs b)
    {G : Act → World → Prop} {a : Act} {w : World} (h : wpOp P ops Q i (fun a1 w1 => G (a1.put oj.dst u) w1) a w) : wpOp P ops Q i G (a.put oj.dst u) w := by
  obtain ⟨h1, h2, h3⟩ := Oper.apart_spec hap
  unfold Go.wpOp at *
  simp only [hi] at *
  rw [wanted_put oi a oj.dst u h3]
  split at h
  · rename_i hw
    rw [if_pos hw]
    rcases h with h | ⟨_, h⟩
    · refine .inl ?_
      unfold Oper.wp at *
      rw [execOp_put oi hsi a oj.dst u h3]
      generalize (execOp a.eval oi).run P w = r at *
      cases r with
      | ok n w' =>
        cases n <;> simp only [Oper.upon] at h ⊢
        case value x => rw [Act.put_comm a x u h2] at h; exact h
        case skip => rw [Act.put_comm a undef u h2] at h; exact h
        case defer d =>
          rw [Act.put_comm _ undef u h2, ← Act.put_defers] at h
          exact h
        case enter f args =>
          refine Calls.mono h fun e w'' he => ?_
          cases e with
          | returned x => exact (show G ((a.put oj.dst u).put oi.dst x) w'' from by rw [← Act.put_comm a x u h2]; exact he)
          | panicked c => exact absurd he (hb.pan _ _ _)
          | outgrown => exact he
        case row row args => exact Rows.mono h fun x w'' he => by rw [Act.put_comm a x u h2] at he; exact he
      | halt x w' =>
        cases x <;> simp only [Oper.upon] at h ⊢
        exact absurd h (hb.pan _ _ _)
    · exact absurd h hb.lets
  · rename_i hw
    rw [if_neg hw]
    rw [Act.put_comm a undef u h2] at h; exact h
/-- an operation beside a reading: the reading still gives its value behind it -/
theorem wpOp_putC (hb : NoBad Q) {C : World → Prop} (hC : ∀ u u', C u → Ext u u' → C u') {j : Nat} {oi oj : Oper} {v : Value} (hj : ops[j]? = some oj) (hap : oi.apart ops oj = true)
    (hsi : ∀ cs b, oi.op ≠ .select cs b) (hsj : ∀ cs b, oj.op ≠ .select cs b) {K : Act → World → Prop} {a : Act} {w : World} (hCw : C w)
    (hm : (∀ u, C u) ∨ MeekEx P (execOp a.eval oj))
    (hy : YieldsC P ops C oi v a) (h : wpOp P ops Q j K (a.put oi.dst v) w) :
    wpOp P ops Q j (fun a' w' => C w' ∧ YieldsC P ops C oi v a' ∧ K (a'.put oi.dst v) w') a w := by
  obtain ⟨h1, h2, h3⟩ := Oper.apart_spec hap
  have keep : ∀ (a : Act), YieldsC P ops C oi v a → ∀ u, YieldsC P ops C oi v (a.put oj.dst u) := fun a hy u =>
    hy.of_same (execOp_put oi hsi a oj.dst u h3) (wanted_put oi a oj.dst u h3)
  have keepD : ∀ d, YieldsC P ops C oi v { a with defers := d :: a.defers } := fun d => hy.of_same rfl rfl
  unfold Go.wpOp at *
  simp only [hj] at *
  rw [wanted_put oj a oi.dst v h1] at h
  split at h
  · rename_i hw
    rw [if_pos hw]
    rcases h with h | ⟨_, h⟩
    case inr => exact absurd h hb.lets
    refine .inl ?_
    unfold Oper.wp at *
    rw [execOp_put oj hsj a oi.dst v h1] at h
    cases hrun : (execOp a.eval oj).run P w with
    | ok n w' =>
      rw [hrun] at h
      have hw' : (∀ u, C u) ∨ (C w' ∧ ∃ x, n = .value x) := orMap hm id fun hm => by
        obtain ⟨e, x⟩ := hm _ _ _ hrun
        exact ⟨hC _ _ hCw e, x⟩
      have hCw' : C w' := by rcases hw' with h | h; exact h _; exact h.1
      have hCall : (∃ x, n = .value x) ∨ ∀ u, C u := by rcases hw' with h | h; exact .inr h; exact .inl h.2
      cases n <;> simp only [Oper.upon] at h ⊢
      case value u => exact ⟨hCw', keep a hy u, by rw [← Act.put_comm a v u h2]; exact h⟩
      case skip => exact ⟨hCw', keep a hy _, by rw [← Act.put_comm a v undef h2]; exact h⟩
      case defer d =>
        refine ⟨hCw', keep _ (keepD d) _, ?_⟩
        rw [← Act.put_comm _ v undef h2, ← Act.put_defers]
        exact h
      case enter f args =>
        refine Calls.mono h fun e w'' he => ?_
        cases e with
        | returned u => exact ⟨hCall.resolve_left (by rintro ⟨x, hx⟩; cases hx) _, keep a hy u, by rw [← Act.put_comm a v u h2]; exact he⟩
        | panicked c => exact absurd he (hb.pan _ _ _)
        | outgrown => exact he
      case row row args => exact Rows.mono h fun u w'' he => ⟨hCall.resolve_left (by rintro ⟨x, hx⟩; cases hx) _, keep a hy u, by rw [← Act.put_comm a v u h2]; exact he⟩
    | halt x w' =>
      rw [hrun] at h
      cases x <;> simp only [Oper.upon] at h ⊢
      exact absurd h (hb.pan _ _ _)
  · rename_i hw
    rw [if_neg hw]
    exact ⟨hCw, keep a hy _, by rw [← Act.put_comm a v undef h2]; exact h⟩

/-- what waits for operation i, at once or through others -/
def Waits (md : Region.Mode) (ops : Array Oper) (i : Nat) (d : Nat → Bool) : Prop :=
  ∀ j oj, ops[j]? = some oj → d j = true → ∃ e ∈ oj.after, Region.binds md e = true ∧ (e.on = i ∨ d e.on = true)
theorem not_waits {i : Nat} {d : Nat → Bool} (hd : Waits md ops i d) {listed : Array Bool} (hu : listed.getD i true = false) (hinv : ∀ j, d j = true → listed.getD j false = false) {j : Nat}
    (hj : j ∈ Region.ready md ops listed) : d j = false := by
  cases hdj : d j with
  | false => rfl
  | true =>
    obtain ⟨_, oj, hoj, hall⟩ := mem_ready.1 hj
    obtain ⟨e, he, hb, h⟩ := hd j oj hoj hdj
    have h1 := hall e he hb
    rcases h with h | h
    · rw [h] at h1
      rcases Nat.lt_or_ge i listed.size with h' | h'
      · simp [h'] at hu h1; rw [hu] at h1; cases h1
      · simp [Array.getElem?_eq_none h'] at h1
    · rw [hinv _ h] at h1; cases h1
theorem inv_set {d : Nat → Bool} {listed : Array Bool} (hinv : ∀ j, d j = true → listed.getD j false = false) {j : Nat} (hj : d j = false) : ∀ k, d k = true → (listed.setIfInBounds j true).getD k false = false := fun k hk => by
  have : j ≠ k := by rintro rfl; rw [hj] at hk; cases hk
  rw [getD_set_ne false this]; exact hinv k hk
/-- a reading first -/
theorem wpAny_rd (hb : NoBad Q) {C : World → Prop} (hC : ∀ u u', C u → Ext u u' → C u') {i : Nat} {oi : Oper} {v : Value} {d : Nat → Bool} (hi : ops[i]? = some oi)
    (hsel : ∀ (j : Nat) (o : Oper) cs b, ops[j]? = some o → o.op ≠ .select cs b) (hd : Waits md ops i d) :
    ∀ (fuel : Nat) (listed : Array Bool) (a : Act) (w : World), (∀ j, d j = true → listed.getD j false = false) → (∀ j, listed.getD j true = false → j ≠ i → d j = false → ∀ oj, ops[j]? = some oj → oi.apart ops oj = true ∧ ((∀ u, C u) ∨ ∀ ρ, MeekEx P (execOp ρ oj))) →
      i ∈ Region.ready md ops listed → C w → YieldsC P ops C oi v a →
      wpAny P md ops Q fuel (listed.setIfInBounds i true) (a.put oi.dst v) w → wpAny P md ops Q (fuel + 1) listed a w := by
  intro fuel
  induction fuel with
  | zero =>
    intro listed a w _ _ hr hCw hy H
    refine ⟨fun h => (by rw [h] at hr; cases hr), fun j hj => ?_⟩
    by_cases hji : j = i
    · subst hji; exact hy.wpOp hi hCw H
    · have := ready_mono hj hji
      rw [H.1] at this
      cases this
  | succ fuel ih =>
    intro listed a w hinv hf hr hCw hy H
    refine ⟨fun h => (by rw [h] at hr; cases hr), fun j hj => ?_⟩
    by_cases hji : j = i
    · subst hji; exact hy.wpOp hi hCw H
    · have h1 := H.2 j (ready_mono hj hji)
      obtain ⟨hjun, oj, hoj, hall⟩ := mem_ready.1 hj
      have hdj := not_waits hd (mem_ready.1 hr).1 hinv hj
      obtain ⟨hap, hm⟩ := hf j hjun hji hdj oj hoj
      have h2 := wpOp_putC hb hC hoj hap (fun cs b => hsel i oi cs b hi) (fun cs b => hsel j oj cs b hoj) hCw (orMap hm id fun h => h _) hy h1
      refine wpOp_mono (fun a' w' h3 => ih (listed.setIfInBounds j true) a' w' (inv_set hinv hdj) (fun k hk hki hdk ok hok => ?_) (ready_mono hr (Ne.symm hji)) h3.1 h3.2.1 ?_) h2
      · by_cases hjk : j = k
        · subst hjk; exact hf j hjun hki hdk ok hok
        · rw [getD_set_ne true hjk] at hk; exact hf k hk hki hdk ok hok
      · rw [Array.setIfInBounds_comm _ _ hji]
        exact h3.2.2
/-- whatever operation first, if those that may come beside it are pure -/
theorem wpAny_eff (hb : NoBad Q) {i : Nat} {oi : Oper} {d : Nat → Bool} (hi : ops[i]? = some oi)
    (hsel : ∀ (j : Nat) (o : Oper) cs b, ops[j]? = some o → o.op ≠ .select cs b) (hd : Waits md ops i d) :
    ∀ (fuel : Nat) (listed : Array Bool) (a : Act) (w : World), (∀ j, d j = true → listed.getD j false = false) → (∀ j, listed.getD j true = false → j ≠ i → d j = false → ∀ oj, ops[j]? = some oj → oi.apart ops oj = true ∧ ∀ ρ, PureEx P (execOp ρ oj)) →
      i ∈ Region.ready md ops listed →
      wpOp P ops Q i (wpAny P md ops Q fuel (listed.setIfInBounds i true)) a w → wpAny P md ops Q (fuel + 1) listed a w := by
  intro fuel
  induction fuel with
  | zero =>
    intro listed a w _ _ hr H
    refine ⟨fun h => (by rw [h] at hr; cases hr), fun j hj => ?_⟩
    by_cases hji : j = i
    · subst hji; exact H
    · obtain ⟨a1, w1, h1⟩ := wpOp_some hb hi H
      have := ready_mono hj hji
      rw [h1.1] at this
      cases this
  | succ fuel ih =>
    intro listed a w hinv hf hr H
    refine ⟨fun h => (by rw [h] at hr; cases hr), fun j hj => ?_⟩
    by_cases hji : j = i
    · subst hji; exact H
    · obtain ⟨hjun, oj, hoj, hall⟩ := mem_ready.1 hj
      have hdj := not_waits hd (mem_ready.1 hr).1 hinv hj
      obtain ⟨hap, hpu⟩ := hf j hjun hji hdj oj hoj
      obtain ⟨p1, p2, p3⟩ := Oper.apart_spec hap
      have H' := wpOp_tmps hb hi H
      have hsame : ∀ a1 : Act, (∃ v, a1.tmps = (a.put oi.dst v).tmps) → execOp a1.eval oj = execOp a.eval oj ∧ Region.wanted oj (yielded ops a1.tmps) = Region.wanted oj (yielded ops a.tmps) := by
        rintro a1 ⟨v, hv⟩
        have he : a1.eval = (a.put oi.dst v).eval := by funext x; cases x <;> simp only [Act.eval, hv]
        rw [he, hv]
        exact ⟨execOp_put oj (fun cs b => hsel j oj cs b hoj) a oi.dst v p1, wanted_put oj a oi.dst v p1⟩
      obtain ⟨a1, w1, h1, ht⟩ := wpOp_some hb hi H'
      obtain ⟨u, hy1, _⟩ := wpOp_pure hb hoj (hpu _) (h1.2 j (ready_mono hj hji))
      have hy : YieldsC P ops (fun _ => True) oj u a := hy1.of_same (hsame a1 ht).1.symm (hsame a1 ht).2.symm
      refine hy.wpOp hoj trivial ?_
      refine ih (listed.setIfInBounds j true) (a.put oj.dst u) w (inv_set hinv hdj) (fun k hk hki hdk ok hok => ?_) (ready_mono hr (Ne.symm hji)) ?_
      · by_cases hjk : j = k
        · subst hjk; exact hf j hjun hki hdk ok hok
        · rw [getD_set_ne true hjk] at hk; exact hf k hk hki hdk ok hok
      · refine wpOp_back hb hi hap (fun cs b => hsel i oi cs b hi) (wpOp_mono (fun a2 w2 ⟨h2, ht2⟩ => ?_) H')
        obtain ⟨u', hy2, h3⟩ := wpOp_pure hb hoj (hpu _) (h2.2 j (ready_mono hj hji))
        have hy2' : YieldsC P ops (fun _ => True) oj u' a := hy2.of_same (hsame a2 ht2).1.symm (hsame a2 ht2).2.symm
        have huu : u' = u := by
          rcases hy with ⟨hw, hv⟩ | ⟨hw, rfl⟩ <;> rcases hy2' with ⟨hw', hv'⟩ | ⟨hw', rfl⟩
          · have := (hv w trivial).symm.trans (hv' w trivial); simp only [Result.ok.injEq, Next.value.injEq, and_true] at this; exact this.symm
          · rw [hw] at hw'; cases hw'
          · rw [hw] at hw'; cases hw'
          · rfl
        rw [huu, Array.setIfInBounds_comm _ _ (Ne.symm hji)] at h3
        exact h3

/-! ### the Bool -/
/-- which operations wait for operation i: reckoned from left to right -/
def waitsFor (md : Region.Mode) (ops : Array Oper) (i : Nat) : List Bool :=
  ops.toList.foldl (fun acc o => acc ++ [o.after.toList.any fun e => Region.binds md e && (e.on == i || acc.getD e.on false)]) []
def waitsOk (md : Region.Mode) (ops : Array Oper) (i : Nat) (d : List Bool) : Bool :=
  (List.range ops.size).all fun j => !d.getD j false || match ops[j]? with
    | some o => o.after.toList.any fun e => Region.binds md e && (e.on == i || d.getD e.on false)
    | none => true
def beside (P : Program) (ops : Array Oper) (oi oj : Oper) : Bool :=
  oi.apart ops oj && (pureOp P oi.op || pureOp P oj.op || (readOp P oi.op && meekOp P oj.op))
def freeAt (P : Program) (md : Region.Mode) (ops : Array Oper) (k : Nat) : Bool :=
  match ops[k]? with
  | none => false
  | some ok =>
    let d := waitsFor md ops k
    waitsOk md ops k d && (List.range (k + 1)).all (fun j => !d.getD j false) &&
    (List.range ops.size).all fun j => j ≤ k || d.getD j false || match ops[j]? with
      | some oj => beside P ops ok oj
      | none => true
def serialFrom (P : Program) (md : Region.Mode) (ops : Array Oper) : Nat → Nat → Array Bool → Bool
  | 0, _, listed => (Region.ready md ops listed).isEmpty
  | fuel + 1, k, listed => (Region.ready md ops listed).contains k && freeAt P md ops k && serialFrom P md ops fuel (k + 1) (listed.setIfInBounds k true)
def serial (P : Program) (ops : Array Oper) : Bool := Region.noSelect ops && serialFrom P .any ops ops.size 0 (Array.replicate ops.size false)

theorem waitsOk_spec {i : Nat} {d : List Bool} (h : waitsOk md ops i d = true) : Waits md ops i (fun j => d.getD j false) := fun j oj hoj hd => by
  simp only [waitsOk, List.all_eq_true, List.mem_range] at h
  have h1 := h j (Array.getElem?_eq_some_iff.1 hoj).1
  simp only [hd, hoj, Bool.not_true, Bool.false_or, List.any_eq_true, Bool.and_eq_true, Bool.or_eq_true, beq_iff_eq] at h1
  obtain ⟨e, he, hb, hor⟩ := h1
  exact ⟨e, by simpa using he, hb, hor⟩
theorem serial_lex (hb : NoBad Q) (hs : Region.noSelect ops = true) : ∀ (l : List Oper) (k : Nat) (listed : Array Bool) (a : Act) (w : World), (∀ j, l[j]? = ops[k + j]?) → (∀ j, k ≤ j → listed.getD j false = false) → (∀ j, j < k → listed.getD j true = true) →
    serialFrom P md ops l.length k listed = true → wpList P ops Q l a w → wpAny P md ops Q l.length listed a w
  | [], _, _, _, _, _, _, _, hB, h => ⟨by simpa [serialFrom] using hB, h⟩
  | o :: l, k, listed, a, w, hl, hlo, hhi, hB, h => by
    have h0 : ops[k]? = some o := by simpa using (hl 0).symm
    simp only [List.length_cons, serialFrom, Bool.and_eq_true] at hB
    obtain ⟨⟨hr, hf⟩, hB'⟩ := hB
    have hready : k ∈ Region.ready md ops listed := by simpa using hr
    simp only [freeAt, h0, Bool.and_eq_true, List.all_eq_true, List.mem_range] at hf
    obtain ⟨⟨hw1, hw2⟩, hw3⟩ := hf
    have hd := waitsOk_spec hw1
    have hklt : k < listed.size := by
      have := (mem_ready.1 hready).1
      rcases Nat.lt_or_ge k listed.size with h' | h'
      · exact h'
      · simp [Array.getElem?_eq_none h'] at this
    have hinv : ∀ j, (fun j => (waitsFor md ops k).getD j false) j = true → listed.getD j false = false := fun j hj => by
      refine hlo j ?_
      rcases Nat.lt_or_ge j k with h' | h'
      · have := hw2 j (by omega); simp only [hj, Bool.not_true] at this; cases this
      · exact h'
    have hfree : ∀ j, listed.getD j true = false → j ≠ k → (fun j => (waitsFor md ops k).getD j false) j = false → ∀ oj, ops[j]? = some oj → beside P ops o oj = true := fun j hj hjk hdj oj hoj => by
      have h1 := hw3 j (Array.getElem?_eq_some_iff.1 hoj).1
      have hkj : k < j := by
        rcases Nat.lt_or_ge j k with h' | h'
        · rw [hhi j h'] at hj; cases hj
        · omega
      simp only [hoj, Bool.or_eq_true, decide_eq_true_eq] at h1
      rcases h1 with (h1 | h1) | h1
      · omega
      · simp only [h1] at hdj; cases hdj
      · exact h1
    have hih : ∀ a w, wpList P ops Q l a w → wpAny P md ops Q l.length (listed.setIfInBounds k true) a w := fun a w h =>
      serial_lex hb hs l (k + 1) _ a w (fun j => by have := hl (j + 1); simpa [Nat.add_assoc, Nat.add_comm 1 j] using this)
        (fun j hj => by rw [getD_set_ne false (by omega)]; exact hlo j (by omega))
        (fun j hj => by
          by_cases hjk : k = j
          · subst hjk; simp [hklt]
          · rw [getD_set_ne true hjk]; exact hhi j (by omega)) hB' h
    have H : wpOp P ops Q k (wpAny P md ops Q l.length (listed.setIfInBounds k true)) a w := by
      refine wpOp_mono hih ?_
      unfold Go.wpOp
      simp only [h0]
      exact h
    simp only [beside, Bool.and_eq_true, Bool.or_eq_true] at hfree
    by_cases hp : pureOp P o.op = true
    · obtain ⟨v, hy, hK⟩ := wpOp_pure hb h0 (pureEx_op _ _ hp) H
      exact wpAny_rd hb (C := fun _ => True) (fun _ _ _ _ => trivial) h0 (Region.noSelect_spec hs) hd _ _ _ _ hinv
        (fun j hj hjk hdj oj hoj => ⟨(hfree j hj hjk hdj oj hoj).1, .inl fun _ => trivial⟩) hready trivial hy hK
    · by_cases hrd : readOp P o.op = true
      · obtain ⟨v, hy, hK⟩ := wpOp_rd hb h0 (rdEx_op _ _ hrd) H
        exact wpAny_rd hb (C := Ext w) (fun _ _ h k => h.trans k) h0 (Region.noSelect_spec hs) hd _ _ _ _ hinv
          (fun j hj hjk hdj oj hoj => ⟨(hfree j hj hjk hdj oj hoj).1, .inr fun ρ => by
            rcases (hfree j hj hjk hdj oj hoj).2 with (h1 | h1) | h1
            · exact absurd h1 hp
            · exact (pureEx_op _ _ h1).rd.meek
            · exact meekEx_op _ _ h1.2⟩) hready (Ext.refl _) hy hK
      · exact wpAny_eff hb h0 (Region.noSelect_spec hs) hd _ _ _ _ hinv
          (fun j hj hjk hdj oj hoj => ⟨(hfree j hj hjk hdj oj hoj).1, fun ρ => by
            rcases (hfree j hj hjk hdj oj hoj).2 with (h1 | h1) | h1
            · exact absurd h1 hp
            · exact pureEx_op _ _ h1
            · exact absurd h1.1 hrd⟩) hready H
/-- **a region that draws, walked in the order of its text** -/
theorem wp_serial {id : Nat} {a : Act} {w : World} {l : List Oper} (hm : P.follows .mixedOrders = true) (hB : serial P l.toArray = true) (hb : NoBad Q)
    (h : wpList P l.toArray Q l a w.drew) : (Code.region id l.toArray true).wp P Q a w := by
  simp only [serial, Bool.and_eq_true] at hB
  refine wp_region_any hm ?_
  have := serial_lex (md := .any) hb hB.1 l 0 (Array.replicate l.toArray.size false) a w.drew (fun j => by simp) (fun j _ => by simp [Array.getElem?_replicate]; split <;> rfl) (fun j hj => by omega) (by simpa using hB.2) h
  simpa using this
end
end Go.Proofs.Ytijmbpokglohbaa

namespace Go.Proofs.Ytijmbpokglohbaa
open Go.RowKit
set_option linter.unusedSimpArgs false
set_option linter.unusedVariables false

/-- outside the blocks of S the second world holds what the first one held -/
structure Upd (S : Nat → Prop) (w w' : World) : Prop where
  os : w'.os = w.os
  tape : w'.tape = w.tape
  output : w'.output = w.output
  size : w.heap.size ≤ w'.heap.size
  keep : ∀ b, b < w.heap.size → ¬ S b → w'.heap[b]? = w.heap[b]?
/-- nothing that was there has changed -/
abbrev Upd0 (w w' : World) : Prop := Upd (fun _ => False) w w'

section
variable {S S' : Nat → Prop} {a b w w' w'' : World}
theorem Upd.refl (S : Nat → Prop) (w : World) : Upd S w w := ⟨rfl, rfl, rfl, Nat.le_refl _, fun _ _ _ => rfl⟩
theorem Upd.trans (h : Upd S w w') (k : Upd S' w' w'') (hs : ∀ n, n < w.heap.size → S' n → S n) : Upd S w w'' :=
  ⟨k.os.trans h.os, k.tape.trans h.tape, k.output.trans h.output, Nat.le_trans h.size k.size, fun n hn hns =>
    (k.keep n (Nat.lt_of_lt_of_le hn h.size) (fun h' => hns (hs n hn h'))).trans (h.keep n hn hns)⟩
theorem Upd.mono (h : Upd S w w') (hs : ∀ n, n < w.heap.size → S n → S' n) : Upd S' w w' :=
  ⟨h.os, h.tape, h.output, h.size, fun n hn hns => h.keep n hn (fun h' => hns (hs n hn h'))⟩
theorem Upd.drew (h : Upd S a w) : Upd S a w.drew := ⟨h.os, h.tape, h.output, h.size, h.keep⟩
theorem Upd.drewN (h : Upd S a w) (n : Nat) : Upd S a (w.drewN n) := ⟨h.os, h.tape, h.output, h.size, h.keep⟩
theorem Upd.alloc (h : Upd S a w) (o : Obj) : Upd S a (w.alloc o) :=
  ⟨h.os, h.tape, h.output, by have := h.size; simp; omega, fun n hn hns => (Below.heap_alloc w o n (Nat.lt_of_lt_of_le hn h.size)).trans (h.keep n hn hns)⟩
theorem Upd.setCell (h : Upd S a w) {p : Addr} (hp : p.block < a.heap.size → S p.block) (v : Value) : Upd S a (w.setCell p v) :=
  ⟨h.os, h.tape, h.output, by have := h.size; simpa using this, fun n hn hns => by
    have hne : n ≠ p.block := by rintro rfl; exact hns (hp hn)
    rw [Below.heap_setCell _ _ _ _ hne]; exact h.keep n hn hns⟩
theorem Upd.grown (h : Upd S a w) {row : Option Nat} (hg : w.grownBy w' row) (hr : ∀ k, row = some k → k < a.heap.size → S k) : Upd S a w' :=
  ⟨hg.os.trans h.os, hg.tape.trans h.tape, hg.output.trans h.output, Nat.le_trans h.size hg.size, fun n hn hns => by
    rw [hg.block n (Nat.lt_of_lt_of_le hn h.size) (fun e => hns (hr n e.symm hn))]; exact h.keep n hn hns⟩
theorem Upd.setRow (h : Upd S a w) {g : Nat} (hg : g < a.heap.size → S g) (c : Array Value) : Upd S a (w.setRow g c) :=
  ⟨h.os, h.tape, h.output, by have := h.size; simpa [World.setRow] using this, fun n hn hns => by
    have hne : n ≠ g := by rintro rfl; exact hns (hg hn)
    rw [setRow_other w g n c hne]; exact h.keep n hn hns⟩
theorem Upd.block (h : Upd S w w') {n : Nat} {o : Obj} (hn : ¬ S n) (ho : w.heap[n]? = some o) : w'.heap[n]? = some o := by
  rw [h.keep n (Array.getElem?_eq_some_iff.1 ho).1 hn]; exact ho
theorem Upd.cell (h : Upd S w w') {p : Addr} {v : Value} (hn : ¬ S p.block) (ho : w.cell? p = some v) : w'.cell? p = some v := by
  rw [World.cell?_of_block (w := w) (h.keep p.block (World.block_lt_of_cell? w p ho) hn)]; exact ho
theorem Upd.cellEq (h : Upd S w w') {p : Addr} (hn : ¬ S p.block) (hp : p.block < w.heap.size) : w'.cell? p = w.cell? p :=
  World.cell?_of_block (w := w) (h.keep p.block hp hn)
theorem Upd.frz (h : Upd S w w') {p : Addr} (hn : ¬ S p.block) (hp : p.block < w.heap.size) : w'.frozen? p = w.frozen? p :=
  World.frozen?_of_block (w := w) (h.keep p.block hp hn)
theorem Upd.below (h : Upd S w w') {B : Nat} (hB : B ≤ w.heap.size) (hS : ∀ n, S n → B ≤ n) : Below B w w' :=
  ⟨h.os, h.tape, h.output, h.size, fun n hn => h.keep n (Nat.lt_of_lt_of_le hn hB) (fun h' => by have := hS n h'; omega)⟩
theorem Upd.ext (h : Upd0 w w') : Ext w w' := ⟨h.size, fun n hn => h.keep n hn (fun h => h)⟩
theorem Ext.alloc (h : Ext a w) (o : Obj) : Ext a (w.alloc o) := ⟨by have := h.1; simp; omega, fun n hn => (Below.heap_alloc w o n (Nat.lt_of_lt_of_le hn h.1)).trans (h.2 n hn)⟩
theorem Ext.drew (h : Ext a w) : Ext a w.drew := h
theorem Ext.drewN (h : Ext a w) (n : Nat) : Ext a (w.drewN n) := h
theorem Ext.lt (h : Ext a w) {n : Nat} (hn : n < a.heap.size) : n < w.heap.size := Nat.lt_of_lt_of_le hn h.1
end

theorem Upd0.tr {w w' w'' : World} (h : Upd0 w w') (k : Upd0 w' w'') : Upd0 w w'' := Upd.trans h k (fun _ _ h => h)
theorem Upd0.of_below {w w' : World} (h : Below w.heap.size w w') : Upd0 w w' := ⟨h.os, h.tape, h.output, h.size, fun b hb _ => h.block b hb⟩
/-- what a walk takes of a call that left all that was there -/
theorem Upd.rules {w w' : World} (h : Upd0 w w') : (∀ b o, b < w.heap.size → w'.cell? ⟨b, o, none⟩ = w.cell? ⟨b, o, none⟩) ∧ (∀ b o, b < w.heap.size → w'.frozen? ⟨b, o, none⟩ = w.frozen? ⟨b, o, none⟩) ∧ w.heap.size ≤ w'.heap.size :=
  ⟨fun b o hb => h.cellEq (fun h => h) hb, fun b o hb => h.frz (fun h => h) hb, h.size⟩
/-! the cells of a block that is known whole -/
theorem blk_lt {w : World} {b : Nat} {o : Obj} (h : w.heap[b]? = some o) : b < w.heap.size := (Array.getElem?_eq_some_iff.1 h).1
theorem blk_cell {w : World} {b : Nat} {c : Array Value} {t : TypeId} {f : Nat × Nat} (h : w.heap[b]? = some (.cells c t f)) (i : Nat) : w.cell? ⟨b, i, none⟩ = c[i]? := cell_of_row w b i c t f h
theorem blk_frz {w : World} {b : Nat} {c : Array Value} {t : TypeId} (h : w.heap[b]? = some (.cells c t (0, 0))) (i : Nat) : w.frozen? ⟨b, i, none⟩ = false := by simp [World.frozen?, h]
theorem blk_set {w : World} {b : Nat} {c : Array Value} {t : TypeId} {f : Nat × Nat} (h : w.heap[b]? = some (.cells c t f)) (i : Nat) (v : Value) : (w.setCell ⟨b, i, none⟩ v).heap[b]? = some (.cells (c.setIfInBounds i v) t f) := by
  simp [World.setCell, Array.getElem?_modify, h]
theorem blk_set_other {w : World} {b n : Nat} (h : n ≠ b) (i : Nat) (v : Value) : (w.setCell ⟨b, i, none⟩ v).heap[n]? = w.heap[n]? := Below.heap_setCell w _ v n h
theorem blk_alloc {w : World} {b : Nat} {o o' : Obj} (h : w.heap[b]? = some o) : (w.alloc o').heap[b]? = some o := by rw [Below.heap_alloc w o' b (blk_lt h)]; exact h

theorem alloc_last (w : World) (o : Obj) (n : Nat) (h : n = w.heap.size) : (w.alloc o).heap[n]? = some o := by subst h; exact heap_alloc_new w o

/-! slices that are owned -/
theorem ownsRow_ext {w w' : World} {B : Nat} {e : TypeId} {s : Nat} {v : Value} {n : Nat} {xs : List Value} (h : w.ownsRow B e s v n xs) (k : Ext w w') : w'.ownsRow B e s v n xs := by
  refine ⟨h.1, ?_⟩
  rcases h.2 with h | ⟨g, cap, cur, rfl, hb, hg, r⟩
  · exact .inl h
  · exact .inr ⟨g, cap, cur, rfl, hb, ext_block k hg, r⟩
theorem ownsRow_upd {S : Nat → Prop} {w w' : World} {B : Nat} {e : TypeId} {s : Nat} {v : Value} {n : Nat} {xs : List Value} (h : w.ownsRow B e s v n xs) (k : Upd S w w') (hS : ∀ g, v.ownBlock = some g → ¬ S g) : w'.ownsRow B e s v n xs := by
  refine ⟨h.1, ?_⟩
  rcases h.2 with h | ⟨g, cap, cur, rfl, hb, hg, r⟩
  · exact .inl h
  · exact .inr ⟨g, cap, cur, rfl, hb, k.block (hS g rfl) hg, r⟩
theorem ownsRow_lt {w : World} {B : Nat} {e : TypeId} {s : Nat} {v : Value} {n : Nat} {xs : List Value} (h : w.ownsRow B e s v n xs) {g : Nat} (hg : v.ownBlock = some g) : g < w.heap.size := (h.lt g hg).2
theorem ownsRow_slice {w : World} {B : Nat} {e : TypeId} {s : Nat} {v : Value} {n : Nat} {xs : List Value} (h : w.ownsRow B e s v n xs) : ∃ ao cap, v = .slice ao n cap := by
  rcases h.2 with ⟨rfl, rfl⟩ | ⟨g, cap, cur, rfl, _⟩ <;> exact ⟨_, _, rfl⟩
theorem ownsRow_some {w : World} {B : Nat} {e : TypeId} {s : Nat} {ao : Option Addr} {n cap : Nat} {xs : List Value} (h : w.ownsRow B e s (.slice ao n cap) n xs) (hn : 0 < n) : ∃ g, ao = some ⟨g, 0, none⟩ := by
  rcases h.2 with ⟨h, rfl⟩ | ⟨g, cap, cur, hv, _⟩
  · omega
  · injection hv with h1; exact ⟨g, h1⟩
theorem ownsRow_blk {w : World} {B : Nat} {e : TypeId} {s g n cap : Nat} {xs : List Value} (h : w.ownsRow B e s (.slice (some ⟨g, 0, none⟩) n cap) n xs) : ∃ cur : Array Value, w.heap[g]? = some (.cells cur e (0, 0)) ∧ n ≤ cap ∧ cap ≤ maxLen ∧ cur.size = cap * s ∧ cur.toList.take (n * s) = xs := by
  rcases h.2 with ⟨h, _⟩ | ⟨g', cap', cur, hv, _, r1, r2, r3, r4, r5⟩
  · cases h
  · cases hv
    exact ⟨cur, r1, r2, r3, r4, r5⟩
theorem ownsRow_mk {w : World} {e : TypeId} {s g n cap : Nat} {cur : Array Value} {xs : List Value} (hg : w.heap[g]? = some (.cells cur e (0, 0))) (hn : n ≤ cap) (hm : cap ≤ maxLen) (hs : cur.size = cap * s) (ht : cur.toList.take (n * s) = xs) : w.ownsRow 0 e s (.slice (some ⟨g, 0, none⟩) n cap) n xs := by
  refine ⟨?_, .inr ⟨g, cap, cur, rfl, Nat.zero_le _, hg, hn, hm, hs, ht⟩⟩
  rw [← ht, List.length_take, Array.length_toList, hs]
  exact Nat.min_eq_left (Nat.mul_le_mul_right s hn)
theorem ownsRow_nil0 {w : World} {B : Nat} {e : TypeId} {s : Nat} {v : Value} {xs : List Value} (h : w.ownsRow B e s v 0 xs) : xs = [] := List.eq_nil_of_length_eq_zero (by simpa using h.1)
theorem ownsRow_cell {w : World} {B : Nat} {e : TypeId} {s : Nat} {v : Value} {n g : Nat} {xs : List Value} (h : w.ownsRow B e s v n xs) (hg : v.ownBlock = some g) {j : Nat} {u : Value} (hj : xs[j]? = some u) : w.cell? ⟨g, j, none⟩ = some u := by
  have := h.cells hg j u hj
  rwa [Addr.add_lit, Nat.zero_add] at this
theorem ownsRow_mono {w : World} {B B' : Nat} {e : TypeId} {s : Nat} {v : Value} {n : Nat} {xs : List Value} (h : w.ownsRow B e s v n xs) (hB : ∀ g, v.ownBlock = some g → B' ≤ g) : w.ownsRow B' e s v n xs := by
  refine ⟨h.1, ?_⟩
  rcases h.2 with h | ⟨g, cap, cur, rfl, hb, hg, r⟩
  · exact .inl h
  · exact .inr ⟨g, cap, cur, rfl, hB g rfl, hg, r⟩
/-- the new value's block is the old one's, or new -/
def Fresh (w : World) (v v' : Value) : Prop := ∀ k, v'.ownBlock = some k → v.ownBlock = some k ∨ w.heap.size ≤ k
theorem Fresh.refl (w : World) (v : Value) : Fresh w v v := fun _ h => .inl h
theorem Fresh.of_new {w : World} {v v' : Value} (h : ∀ k, v'.ownBlock = some k → w.heap.size ≤ k) : Fresh w v v' := fun k hk => .inr (h k hk)
theorem Fresh.trans {w w' : World} {v v' v'' : Value} (h : Fresh w v v') (k : Fresh w' v' v'') (hs : w.heap.size ≤ w'.heap.size) : Fresh w v v'' := fun n hn => by
  rcases k n hn with h1 | h1
  · exact h n h1
  · exact .inr (by omega)

theorem flat_get {α : Type} {f : α → List Value} {s : Nat} (hf : ∀ x, (f x).length = s) : ∀ (l : List α) (i j : Nat) (x : α), l[i]? = some x → j < s → (l.flatMap f)[i * s + j]? = (f x)[j]?
  | [], i, j, x, h, _ => by simp at h
  | y :: l, 0, j, x, h, hj => by
    simp only [List.getElem?_cons_zero, Option.some.injEq] at h
    subst h
    rw [List.flatMap_cons, Nat.zero_mul, Nat.zero_add, List.getElem?_append_left (by rw [hf]; exact hj)]
  | y :: l, i + 1, j, x, h, hj => by
    rw [List.flatMap_cons, List.getElem?_append_right (by rw [hf, Nat.add_mul]; omega), hf]
    have : (i + 1) * s + j - s = i * s + j := by rw [Nat.add_mul]; omega
    rw [this]
    exact flat_get hf l i j x (by simpa using h) hj
theorem flat_len {α : Type} {f : α → List Value} {s : Nat} (hf : ∀ x, (f x).length = s) (l : List α) : (l.flatMap f).length = l.length * s := by
  induction l with
  | nil => simp
  | cons x l ih => rw [List.flatMap_cons, List.length_append, hf, ih, List.length_cons, Nat.add_mul]; omega
theorem flat_take {α : Type} {f : α → List Value} {s : Nat} (hf : ∀ x, (f x).length = s) : ∀ (l : List α) (i : Nat), (l.flatMap f).take (i * s) = (l.take i).flatMap f
  | [], i => by simp
  | x :: l, 0 => by simp
  | x :: l, i + 1 => by
    rw [List.flatMap_cons, List.take_succ_cons, List.flatMap_cons, List.take_append, hf]
    have : (i + 1) * s - s = i * s := by rw [Nat.add_mul]; omega
    rw [this, flat_take hf l i, List.take_of_length_le (by rw [hf, Nat.add_mul]; omega)]
theorem flat_drop {α : Type} {f : α → List Value} {s : Nat} (hf : ∀ x, (f x).length = s) : ∀ (l : List α) (i : Nat), (l.flatMap f).drop (i * s) = (l.drop i).flatMap f
  | [], i => by simp
  | x :: l, 0 => by simp
  | x :: l, i + 1 => by
    rw [List.flatMap_cons, List.drop_succ_cons, List.drop_append, hf]
    have : (i + 1) * s - s = i * s := by rw [Nat.add_mul]; omega
    rw [this, flat_drop hf l i, List.drop_of_length_le (by rw [hf, Nat.add_mul]; omega), List.nil_append]
/-- a cell of an element of an owned slice -/
theorem elem_cell {α : Type} {f : α → List Value} {s : Nat} (hf : ∀ x, (f x).length = s) {w : World} {B : Nat} {e : TypeId} {l : List α} {n g cap : Nat} (h : w.ownsRow B e s (.slice (some ⟨g, 0, none⟩) n cap) n (l.flatMap f)) {i : Nat} {x : α} (hi : l[i]? = some x)
    (j : Nat) (u : Value) (hj : j < s) (hu : (f x)[j]? = some u) : w.cell? ⟨g, i * s + j, none⟩ = some u :=
  ownsRow_cell h rfl (by rw [flat_get hf l i j x hi hj]; exact hu)
theorem ownsRow_set1 {w : World} {e : TypeId} {s g n cap : Nat} {xs : List Value} (h : w.ownsRow 0 e s (.slice (some ⟨g, 0, none⟩) n cap) n xs) (j : Nat) (u : Value) : (w.setCell ⟨g, j, none⟩ u).ownsRow 0 e s (.slice (some ⟨g, 0, none⟩) n cap) n (xs.set j u) := by
  obtain ⟨cur, r1, r2, r3, r4, r5⟩ := ownsRow_blk h
  refine ownsRow_mk (blk_set r1 j u) r2 r3 (by simpa using r4) ?_
  rw [Array.toList_setIfInBounds, List.take_set, r5]
theorem flat_set {α : Type} {f : α → List Value} {s : Nat} (hf : ∀ x, (f x).length = s) (x : α) : ∀ (l : List α) (i : Nat), i < l.length → (l.set i x).flatMap f = (l.flatMap f).take (i * s) ++ f x ++ (l.flatMap f).drop ((i + 1) * s)
  | [], i, h => by simp at h
  | y :: l, i, h => by
    rw [flat_take hf, flat_drop hf, List.set_eq_take_append_cons_drop, if_pos h]
    simp
section
variable {P : Program}
/-- append to an owned slice, of cells that lie in a block: one goal, what follows -/
theorem run_append_blk {w W : World} (hext : Ext w W) (t ty e : TypeId) (i : TypeInfo) (z : Value) (size bytes : Nat) (ht : P.underlying t = some (.slice e)) (hi : P.info? e = some i) (hz : i.zero = some z)
    (hsize : i.size = size) (hby : i.bytes = bytes) (hzs : z.cells.size = size) (hsz : 0 < size)
    (v : Value) (n : Nat) (xs : List Value) (hown : w.ownsRow 0 e size v n xs)
    (ad : Addr) (m c : Nat) (news : List Value) (hl : news.length = m * size) (hnews : ∀ j u, news[j]? = some u → W.cell? (ad.add j) = some u) (h1 : ∀ u ∈ news, u.oneCell' = true)
    (hbytes : (n + m) * bytes ≤ 140737488355328) (h63 : n + m ≤ 140737488355328) :
    ∃ ao' cap' W', (Builtin.append_ #[t, t] ty #[v, .slice (some ad) m c]).run P W = .ok (.slice ao' (n + m) cap') W' ∧ W'.ownsRow 0 e size (.slice ao' (n + m) cap') (n + m) (xs ++ news) ∧ Upd (fun k => v.ownBlock = some k) W W' ∧
      Fresh W v (.slice ao' (n + m) cap') ∧ (ao' = none → v = .slice none 0 0 ∧ m = 0) := by
  obtain ⟨v', W', hr, ho, hg, hnil⟩ := run_append_own (P := P) W 0 t ty e i z size bytes ht hi hz hsize hby hzs hsz v n xs (ownsRow_ext hown hext) ad m c news hl hnews h1 (by unfold maxLen; omega) hbytes (Nat.zero_le _)
  have hfresh : Fresh W v v' := fun k hk => by
    have := ho.lt k hk
    rcases Nat.lt_or_ge k W.heap.size with h | h
    · by_cases hv : v.ownBlock = some k
      · exact .inl hv
      · -- the new row in a block that was there and is not v's own: then it was left as it was, but run_append_own's cases say otherwise
        exfalso
        rcases hown.2 with ⟨rfl, rfl⟩ | ⟨g, cap, cur, rfl, _, hgg, hnc, _, hcs, _⟩
        · have hx : xs = [] := ownsRow_nil0 hown
          by_cases hm : m = 0
          · have : v' = .slice none 0 0 := hnil.2 ⟨rfl, hm⟩
            subst this; simp [Value.ownBlock] at hk
          · have hrn := run_append_nil (P := P) W t ty e i z ht hi hz ad m c news (by rw [hsize]; exact hl) hnews (by omega) (by omega) (by rw [hby]; have hb := hbytes; rw [Nat.zero_add] at hb; omega)
            rw [hrn] at hr
            injection hr with e1 e2
            subst e1
            simp [Value.ownBlock] at hk
            omega
        · by_cases hroom : n + m ≤ cap
          · have hfit : n * size + news.length ≤ cur.size := by rw [hl, hcs, ← Nat.add_mul]; exact Nat.mul_le_mul_right _ hroom
            have hrr := run_append_room (P := P) W t ty e i ht hi g n cap cur (ext_block hext hgg) ad m c news (by rw [hsize]; exact hl) hnews h1 hroom (by rw [hsize]; exact hfit)
            rw [hrr] at hr
            injection hr with e1 e2
            subst e1
            exact hv hk
          · have holds : ∀ j u, xs[j]? = some u → W.cell? ((⟨g, 0, none⟩ : Addr).add j) = some u := (ownsRow_ext hown hext).cells (g := g) rfl
            have hrg := run_append_grow (P := P) W t ty e i z ht hi hz ⟨g, 0, none⟩ n cap xs (by rw [hsize]; exact hown.1) holds ad m c news (by rw [hsize]; exact hl) hnews (by omega) (by omega) (by rw [hby]; exact growslice_fits (by omega) hbytes)
            rw [hrg] at hr
            injection hr with e1 e2
            subst e1
            simp [Value.ownBlock] at hk
            omega
    · exact .inr h
  obtain ⟨ao', cap', rfl⟩ := ownsRow_slice ho
  refine ⟨ao', cap', W', hr, ho, ⟨hg.os, hg.tape, hg.output, hg.size, fun k hk hne => hg.block k hk (fun e => hne e.symm)⟩, hfresh, fun hn => ?_⟩
  subst hn
  rcases ho.2 with ⟨h1, h2⟩ | ⟨g, cap, cur, hv, _⟩
  · exact hnil.1 h1
  · injection hv with h1; cases h1
theorem wpList_app {w W : World} (hext : Ext w W) {ops : Array Oper} {rest : List Oper} {o : Oper} {a : Act} {Q : Exit → Act → World → Prop} (hgd : o.guard = none) (s x : Operand) (t : TypeId)
    (ho : o.op = .call { callee := .builtin .append, args := #[s, x], argTypes := #[t, t] })
    (e : TypeId) (i : TypeInfo) (z : Value) (size bytes : Nat) (ht : P.underlying t = some (.slice e)) (hi : P.info? e = some i) (hz : i.zero = some z)
    (hsize : i.size = size) (hby : i.bytes = bytes) (hzs : z.cells.size = size) (hsz : 0 < size)
    (v : Value) (n : Nat) (xs : List Value) (hown : w.ownsRow 0 e size v n xs) (hs : a.eval s = v)
    (g m c : Nat) (news : List Value) (hx : a.eval x = .slice (some ⟨g, 0, none⟩) m c) (hl : news.length = m * size) (hnews : W.heap[g]? = some (.cells news.toArray e (0, 0))) (h1 : news.all (·.oneCell') = true)
    (hbytes : (n + m) * bytes ≤ 140737488355328) (h63 : n + m ≤ 140737488355328)
    (h : ∀ ao' cap' W', W'.ownsRow 0 e size (.slice ao' (n + m) cap') (n + m) (xs ++ news) → Upd (fun k => v.ownBlock = some k) W W' → Fresh W v (.slice ao' (n + m) cap') → wpList P ops Q rest (a.put o.dst (.slice ao' (n + m) cap')) W') : wpList P ops Q (o :: rest) a W :=
  wpList_plain hgd fun _ hK => by
    obtain ⟨ao', cap', W', hr, h2, h3, h4, _⟩ := run_append_blk (P := P) hext t o.type e i z size bytes ht hi hz hsize hby hzs hsz v n xs hown ⟨g, 0, none⟩ m c news hl
      (fun j u hu => by rw [Addr.add_lit, Nat.zero_add, blk_cell hnews]; simpa using hu) (fun u hu => List.all_eq_true.1 h1 u hu) hbytes h63
    unfold Oper.wp execOp
    simp only [ho, resolve, invoke, builtin, Sem.run_bind, Sem.run_pure, Result.andThen_ok, List.map_toArray, List.map_cons, List.map_nil, hs, hx, hr]
    exact hK _ _ (h ao' cap' W' h2 h3 h4)
/-- append where there is room, whatever lies behind the length -/
theorem wpList_app_room {W : World} {ops : Array Oper} {rest : List Oper} {o : Oper} {a : Act} {Q : Exit → Act → World → Prop} (hgd : o.guard = none) (s x : Operand) (t : TypeId)
    (ho : o.op = .call { callee := .builtin .append, args := #[s, x], argTypes := #[t, t] })
    (e : TypeId) (i : TypeInfo) (size : Nat) (ht : P.underlying t = some (.slice e)) (hi : P.info? e = some i) (hsize : i.size = size)
    (g n cap : Nat) (cur : Array Value) (hg : W.heap[g]? = some (.cells cur e (0, 0))) (hs : a.eval s = .slice (some ⟨g, 0, none⟩) n cap)
    (ad : Addr) (m c : Nat) (news : List Value) (hx : a.eval x = .slice (some ad) m c) (hl : news.length = m * size) (hnews : ∀ j u, news[j]? = some u → W.cell? (ad.add j) = some u) (h1 : ∀ u ∈ news, u.oneCell' = true)
    (hroom : n + m ≤ cap) (hfit : n * size + news.length ≤ cur.size)
    (h : wpList P ops Q rest (a.put o.dst (.slice (some ⟨g, 0, none⟩) (n + m) cap)) (W.setRow g (cur.toList.take (n * size) ++ news ++ cur.toList.drop (n * size + news.length)).toArray)) : wpList P ops Q (o :: rest) a W :=
  wpList_plain hgd fun _ hK => by
    subst hsize
    have hr := run_append_room (P := P) W t o.type e i ht hi g n cap cur hg ad m c news hl hnews h1 hroom hfit
    unfold Oper.wp execOp
    simp only [ho, resolve, invoke, builtin, Sem.run_bind, Sem.run_pure, Result.andThen_ok, List.map_toArray, List.map_cons, List.map_nil, hs, hx, hr]
    exact hK _ _ h
theorem run_clear_row {W : World} (t ty e : TypeId) (i : TypeInfo) (z : Value) (size : Nat) (ht : P.underlying t = some (.slice e)) (hi : P.info? e = some i) (hz : i.zero = some z) (hzs : z.cells.size = size) (h1 : ∀ u ∈ z.cells.toList, u.oneCell' = true)
    (g off n c : Nat) (cur : Array Value) (hg : W.heap[g]? = some (.cells cur e (0, 0))) (ad : Addr) (had : 0 < n → ad = ⟨g, off, none⟩) (hfit : off + n * size ≤ cur.size) :
    ∃ zs : List Value, zs.length = n * size ∧ (Builtin.clear_ #[t] ty #[.slice (some ad) n c]).run P W = .ok (.tuple #[]) (W.setRow g (cur.toList.take off ++ zs ++ cur.toList.drop (off + n * size)).toArray) := by
  cases n with
  | zero =>
    refine ⟨[], by simp, ?_⟩
    have e1 : (cur.toList.take off ++ [] ++ cur.toList.drop (off + 0 * size)).toArray = cur := by simp
    rw [e1, setRow_self W g cur e (0, 0) hg]
    simp [Builtin.clear_, run_underlying ht]
  | succ n =>
    have hlen : (Builtin.zeroCells z.cells (n + 1)).toList.length = (n + 1) * size := by simp [Builtin.zeroCells, hzs]
    refine ⟨(Builtin.zeroCells z.cells (n + 1)).toList, hlen, ?_⟩
    have hst := run_storeCells_at P g off e (Builtin.zeroCells z.cells (n + 1)).toList 0 cur W hg (by rw [hlen]; omega) (by
      intro u hu
      simp only [Builtin.zeroCells, Array.toList_map, List.mem_map] at hu
      obtain ⟨j, hj, rfl⟩ := hu
      have hpos : 0 < z.cells.size := by
        rcases Nat.eq_zero_or_pos z.cells.size with h | h
        · rw [h] at hj; simp at hj
        · exact h
      have : j % z.cells.size < z.cells.size := Nat.mod_lt _ hpos
      rw [getElem!_pos z.cells _ this]
      exact h1 _ (by simp))
    rw [hlen, Nat.add_zero] at hst
    rw [had (by omega)]
    simp [Builtin.clear_, run_underlying ht, zeroValue, typeInfo, hi, hz, hst]
theorem wpList_clear {W : World} {ops : Array Oper} {rest : List Oper} {o : Oper} {a : Act} {Q : Exit → Act → World → Prop} (hgd : o.guard = none) (x : Operand) (t : TypeId)
    (ho : o.op = .call { callee := .builtin .clear, args := #[x], argTypes := #[t] })
    (e : TypeId) (i : TypeInfo) (z : Value) (size : Nat) (ht : P.underlying t = some (.slice e)) (hi : P.info? e = some i) (hz : i.zero = some z) (hzs : z.cells.size = size) (h1 : z.cells.toList.all (·.oneCell') = true)
    (g off n c : Nat) (cur : Array Value) (hg : W.heap[g]? = some (.cells cur e (0, 0))) (ad : Addr) (hx : a.eval x = .slice (some ad) n c) (had : 0 < n → ad = ⟨g, off, none⟩) (hfit : off + n * size ≤ cur.size)
    (h : ∀ zs : List Value, zs.length = n * size → wpList P ops Q rest (a.put o.dst (.tuple #[])) (W.setRow g (cur.toList.take off ++ zs ++ cur.toList.drop (off + n * size)).toArray)) : wpList P ops Q (o :: rest) a W :=
  wpList_plain hgd fun _ hK => by
    obtain ⟨zs, hzl, hr⟩ := run_clear_row (P := P) (W := W) t o.type e i z size ht hi hz hzs (fun u hu => List.all_eq_true.1 h1 u hu) g off n c cur hg ad had hfit
    unfold Oper.wp execOp
    simp only [ho, resolve, invoke, builtin, Sem.run_bind, Sem.run_pure, Result.andThen_ok, List.map_toArray, List.map_cons, List.map_nil, hx, hr]
    exact hK _ _ (h zs hzl)
end
end Go.Proofs.Ytijmbpokglohbaa

namespace Go.Proofs.Ytijmbpokglohbaa
open Go.RowKit
set_option linter.unusedSimpArgs false
set_option linter.unusedVariables false
section
variable {P : Program}
theorem wpList_appx {w W : World} (hext : Ext w W) {ops : Array Oper} {rest : List Oper} {o : Oper} {a : Act} {Q : Exit → Act → World → Prop} (hgd : o.guard = none) (s x : Operand) (t : TypeId)
    (ho : o.op = .call { callee := .builtin .append, args := #[s, x], argTypes := #[t, t] })
    (e : TypeId) (i : TypeInfo) (z : Value) (size bytes : Nat) (ht : P.underlying t = some (.slice e)) (hi : P.info? e = some i) (hz : i.zero = some z)
    (hsize : i.size = size) (hby : i.bytes = bytes) (hzs : z.cells.size = size) (hsz : 0 < size)
    (v : Value) (n : Nat) (xs : List Value) (hown : w.ownsRow 0 e size v n xs) (hs : a.eval s = v)
    (ad : Addr) (m c : Nat) (news : List Value) (hx : a.eval x = .slice (some ad) m c) (hl : news.length = m * size) (hnews : ∀ j u, news[j]? = some u → W.cell? (ad.add j) = some u) (h1 : ∀ u ∈ news, u.oneCell' = true)
    (hbytes : (n + m) * bytes ≤ 140737488355328) (h63 : n + m ≤ 140737488355328)
    (h : ∀ ao' cap' W', W'.ownsRow 0 e size (.slice ao' (n + m) cap') (n + m) (xs ++ news) → Upd (fun k => v.ownBlock = some k) W W' → Fresh W v (.slice ao' (n + m) cap') → wpList P ops Q rest (a.put o.dst (.slice ao' (n + m) cap')) W') : wpList P ops Q (o :: rest) a W :=
  wpList_plain hgd fun _ hK => by
    obtain ⟨ao', cap', W', hr, h2, h3, h4, _⟩ := run_append_blk (P := P) hext t o.type e i z size bytes ht hi hz hsize hby hzs hsz v n xs hown ad m c news hl hnews h1 hbytes h63
    unfold Oper.wp execOp
    simp only [ho, resolve, invoke, builtin, Sem.run_bind, Sem.run_pure, Result.andThen_ok, List.map_toArray, List.map_cons, List.map_nil, hs, hx, hr]
    exact hK _ _ (h ao' cap' W' h2 h3 h4)
/-- the same where what is appended is nil -/
theorem wpList_app_nil {w W : World} (hext : Ext w W) {ops : Array Oper} {rest : List Oper} {o : Oper} {a : Act} {Q : Exit → Act → World → Prop} (hgd : o.guard = none) (s x : Operand) (t : TypeId)
    (ho : o.op = .call { callee := .builtin .append, args := #[s, x], argTypes := #[t, t] })
    (e : TypeId) (i : TypeInfo) (size : Nat) (ht : P.underlying t = some (.slice e)) (hi : P.info? e = some i) (hsize : i.size = size)
    (v : Value) (n : Nat) (xs : List Value) (hown : w.ownsRow 0 e size v n xs) (hs : a.eval s = v) (hx : a.eval x = .slice none 0 0)
    (h : wpList P ops Q rest (a.put o.dst v) W) : wpList P ops Q (o :: rest) a W :=
  wpList_plain hgd fun _ hK => by
    have hr := run_append_owned_none (P := P) W 0 t o.type e i size ht hi v n xs (ownsRow_ext hown hext)
    unfold Oper.wp execOp
    simp only [ho, resolve, invoke, builtin, Sem.run_bind, Sem.run_pure, Result.andThen_ok, List.map_toArray, List.map_cons, List.map_nil, hs, hx, hr]
    exact hK _ _ h
end
/-- the cells of a slice's part -/
theorem part_cells {α : Type} {f : α → List Value} {s : Nat} (hf : ∀ x, (f x).length = s) {w : World} {B : Nat} {e : TypeId} {l : List α} {n g cap : Nat} (h : w.ownsRow B e s (.slice (some ⟨g, 0, none⟩) n cap) n (l.flatMap f)) (i m : Nat) :
    ∀ j u, (((l.drop i).take m).flatMap f)[j]? = some u → w.cell? ((⟨g, i * s, none⟩ : Addr).add j) = some u := by
  intro j u hu
  rw [Addr.add_lit]
  refine ownsRow_cell h rfl ?_
  rw [← flat_take hf, ← flat_drop hf, List.getElem?_take] at hu
  split at hu
  · rw [List.getElem?_drop] at hu; exact hu
  · cases hu
end Go.Proofs.Ytijmbpokglohbaa

namespace Go.Proofs.Ytijmbpokglohbaa
open Go.RowKit Go.Shelf
set_option linter.unusedSimpArgs false
set_option linter.unusedVariables false
section
variable {F : Fence} {n : Nat} {P : Program}
theorem Upd.putObj {S : Nat → Prop} {a w : World} (h : Upd S a w) {l : Nat} (hl : l < a.heap.size → S l) (o : Obj) : Upd S a (w.putObj l o) :=
  ⟨h.os, h.tape, h.output, by rw [World.putObj_size]; exact h.size, fun k hk hs => by
    rw [World.putObj_heap_other (fun e => hs (by subst e; exact hl hk))]; exact h.keep k hk hs⟩
/-- how a round's body may be left: it has kept blocks cb, d, d + 1 -/
structure Kept3 (cb d : Nat) (W W' : World) : Prop where
  size : W.heap.size ≤ W'.heap.size
  k1 : W'.heap[cb]? = W.heap[cb]?
  k2 : W'.heap[d]? = W.heap[d]?
  k3 : W'.heap[d + 1]? = W.heap[d + 1]?
def cellPost {α : Type} (cb d : Nat) (I : List α → World → Prop) (Ix : Code → List α → World → Prop) (xs : List α) (W : World) : Exit → Act → World → Prop
  | .normal, _, W' => Kept3 cb d W W' ∧ I xs W'
  | .ret, _, W' => Kept3 cb d W W' ∧ Ix .ret xs W'
  | _, _, _ => False
/-- the iterator's contract: what it does to the world beside its rounds is: a store into block cb -/
def SeqCell {α : Type} (F : Fence) (n : Nat) (P : Program) (gf cb : Nat) (lb : Array Value) (encs : α → Array Value) (xs0 : List α) (w : World) : Prop :=
  ∀ (l : Nat) (J Jx : List α → World → Prop) (W : World), Upd0 w W →
    (∀ s A v, J s A → J s (A.setCell ⟨cb, 0, none⟩ v)) →
    (∀ pre x A, (pre ++ [x]) <+: xs0 → J pre A → YieldAt F (n - 1) P l (encs x) A fun e A' => (e = .returned (.bool true) ∧ J (pre ++ [x]) A' ∧ A'.heap[cb]? = A.heap[cb]?) ∨ (e = .returned (.bool false) ∧ Jx (pre ++ [x]) A')) →
    J [] W → CallsIn F n P gf (#[.func (.yield l) #[] #[]] ++ lb) W fun e A => (∃ v, e = .returned v) ∧ (J xs0 A ∨ (∃ pre, pre <+: xs0 ∧ Jx pre A))
theorem wpIn_range_cell {α : Type} {g : Operand} {ps : Array Tmp} {assign body : Code} {Q : Exit → Act → World → Prop} {a : Act} {w : World}
    (hro : F.round = none) (h1 : 1 ≤ n) {gf cb : Nat} {lb : Array Value} (hg : a.eval g = .func (.func gf) #[] lb) (hFg : F.fn gf) (eg : ∀ args w, (callFunc gf args).run P w = .ok (.enter gf args) w)
    {encs : α → Array Value} {xs0 : List α} (hseq : SeqCell F (n - 1) P gf cb lb encs xs0 w) (hcb : cb < w.heap.size) (hps : ∀ x, (encs x).size = ps.size)
    (I : List α → World → Prop) (Ix : Code → List α → World → Prop)
    (hI : ∀ s A A', I s A → Upd (fun k => k = cb ∨ k = w.heap.size ∨ k = w.heap.size + 1) A A' → I s A')
    (hIx : ∀ c s A A', Ix c s A → Upd (fun k => k = cb ∨ k = w.heap.size ∨ k = w.heap.size + 1) A A' → Ix c s A')
    (h0 : ∀ W, Upd0 w W → I [] W) (a₁ : α → Act)
    (hassign : ∀ (l : Nat) (x : α) (W : World) (K : Act → World → Prop), K (a₁ x) W →
      assign.wpIn (F.inRound l) (n - 1 - 1) P (Exit.then K (fun _ _ _ => False)) { tmps := (ps.zip (encs x)).foldl (fun t (p, v) => t.setIfInBounds p v) a.tmps, defers := [] } W)
    (hbody : ∀ (l : Nat) (pre : List α) (x : α) (W : World), w.heap.size + 1 < W.heap.size → (pre ++ [x]) <+: xs0 → I pre W → body.wpIn (F.inRound l) (n - 1 - 1) P (cellPost cb w.heap.size I Ix (pre ++ [x]) W) (a₁ x) W)
    (hdone : ∀ (W : World), I xs0 W → W.heap[w.heap.size]? = some (.deferred (some [])) → Q .normal { a with defers := { target := .collected w.heap.size, args := #[] } :: a.defers } W)
    (hstop : ∀ (c : Code) (pre : List α) (W : World), pre <+: xs0 → Ix c pre W → W.heap[w.heap.size]? = some (.deferred (some [])) → c.wpIn F n P Q { a with defers := { target := .collected w.heap.size, args := #[] } :: a.defers } W) :
    (Code.rangeFunc g ps assign body).wpIn F n P Q a w := by
  refine wpIn_rangeFunc fun fn hfn => ?_
  rw [hro]
  obtain ⟨rc, hrc⟩ : ∃ rc : LoopState → Option Code → Loop, rc = fun st pe => { state := st, pending := pe, fn, tmps := a.tmps, params := ps, assign, body, defers := w.heap.size } := ⟨_, rfl⟩
  obtain ⟨W1, hW1⟩ : ∃ W1, (w.alloc (.deferred (some []))).alloc (.loop (rc .ready none)) = W1 := ⟨_, rfl⟩
  have hu1 : Upd0 w W1 := by rw [← hW1]; exact ((Upd.refl _ w).alloc _).alloc _
  have hL1 : W1.heap[w.heap.size + 1]? = some (.loop (rc .ready none)) := by
    rw [← hW1]; exact alloc_last _ _ _ (by simp)
  have hD1 : W1.heap[w.heap.size]? = some (.deferred (some [])) := by
    rw [← hW1]; exact blk_alloc (alloc_last _ _ _ rfl)
  have hs1 : w.heap.size + 1 < W1.heap.size := blk_lt hL1
  refine ⟨w.heap.size + 1, [{ target := .collected w.heap.size, args := #[] }], W1, { target := .fn (.func gf) lb, args := #[.func (.yield (w.heap.size + 1)) #[] #[]] }, W1, gf,
    #[.func (.yield (w.heap.size + 1)) #[] #[]] ++ lb, W1, ?_, ?_, ?_, ?_, fun _ => h1, ?_⟩
  · rw [← hW1, hrc]; exact run_enterLoop_outer _ _ _ _ _
  · simp only [resolve, hg]
    simp [go_sem]
  · intro f' hf'; simp [Target.leads] at hf'; subst hf'; exact hFg
  · simp [invoke, go_sem, eg]
  · have hn1 : ¬ w.heap.size = w.heap.size + 1 := by omega
    have hn2 : ¬ w.heap.size = cb := by omega
    have hn3 : ¬ w.heap.size + 1 = cb := by omega
    refine (hseq (w.heap.size + 1)
      (fun pre W => I pre W ∧ W.heap[w.heap.size + 1]? = some (.loop (rc .ready none)) ∧ W.heap[w.heap.size]? = some (.deferred (some [])))
      (fun pre W => Ix .ret pre W ∧ W.heap[w.heap.size + 1]? = some (.loop (rc .done (some .ret))) ∧ W.heap[w.heap.size]? = some (.deferred (some [])))
      W1 hu1 (fun s A v ⟨i1, i2, i3⟩ => ⟨hI s A _ i1 ((Upd.refl _ A).setCell (fun _ => .inl rfl) v), by rw [Below.heap_setCell _ _ _ _ hn3]; exact i2, by rw [Below.heap_setCell _ _ _ _ hn2]; exact i3⟩)
      ?_ ⟨h0 W1 hu1, hL1, hD1⟩).mono ?_
    · rintro pre x W hpx ⟨hi, hl, hd⟩
      have hlt := blk_lt hl
      have hy := run_yield (P := P) (args := encs x) hl (by rw [hrc]; exact hps x)
      rw [hrc] at hy
      refine ⟨fn, _, assign, body, hy, roundIn_of_wpIn hfn (hassign _ x W _ ⟨_, run_beginRound hl (by rw [hrc]), ?_⟩)⟩
      obtain ⟨W2, hW2⟩ : ∃ W2, W.putObj (w.heap.size + 1) (.loop { rc .ready none with state := .busy }) = W2 := ⟨_, rfl⟩
      rw [hW2]
      have hu2 : Upd (fun k => k = cb ∨ k = w.heap.size ∨ k = w.heap.size + 1) W W2 := by rw [← hW2]; exact (Upd.refl _ W).putObj (fun _ => .inr (.inr rfl)) _
      have hl2 : W2.heap[w.heap.size + 1]? = some (.loop { rc .ready none with state := .busy }) := by rw [← hW2]; exact World.putObj_heap_same hlt
      have hd2 : W2.heap[w.heap.size]? = some (.deferred (some [])) := by rw [← hW2, World.putObj_heap_other hn1]; exact hd
      have hc2 : W2.heap[cb]? = W.heap[cb]? := by rw [← hW2, World.putObj_heap_other (fun e => hn3 e.symm)]
      have hs2 : w.heap.size + 1 < W2.heap.size := blk_lt hl2
      refine wpIn_mono (hbody _ pre x W2 hs2 hpx (hI _ _ _ hi hu2)) ?_
      rintro e a3 W3 hp
      cases e with
      | normal =>
        obtain ⟨hk, hi3⟩ := hp
        have hl3 : W3.heap[w.heap.size + 1]? = some (.loop { rc .ready none with state := .busy }) := hk.k3.trans hl2
        refine ⟨_, _, run_endRound (P := P) none hl3, .inl ⟨rfl, ⟨hI _ _ _ hi3 ((Upd.refl _ W3).putObj (fun _ => .inr (.inr rfl)) _), ?_, ?_⟩, ?_⟩⟩
        · rw [World.putObj_heap_same (blk_lt hl3)]; rw [hrc]; rfl
        · rw [World.putObj_heap_other hn1]; exact hk.k2.trans hd2
        · rw [World.putObj_heap_other (fun e => hn3 e.symm)]; exact hk.k1.trans hc2
      | ret =>
        obtain ⟨hk, hi3⟩ := hp
        have hl3 : W3.heap[w.heap.size + 1]? = some (.loop { rc .ready none with state := .busy }) := hk.k3.trans hl2
        refine ⟨_, _, run_endRound (P := P) (some .ret) hl3, .inr ⟨rfl, hIx _ _ _ _ hi3 ((Upd.refl _ W3).putObj (fun _ => .inr (.inr rfl)) _), ?_, ?_⟩⟩
        · rw [World.putObj_heap_same (blk_lt hl3)]; rw [hrc]; rfl
        · rw [World.putObj_heap_other hn1]; exact hk.k2.trans hd2
      | exit id => exact hp.elim
      | goto t => exact hp.elim
      | panic ch => exact hp.elim
      | outgrown => exact hp.elim
    · rintro e W2 ⟨⟨v, rfl⟩, (⟨hi, hl, hd⟩ | ⟨pre, hSp, hi, hl, hd⟩)⟩
      · exact ⟨none, _, by have := run_endLoop (P := P) hl (by rw [hrc]; simp); rw [hrc] at this; exact this, hdone _ (hI _ _ _ hi ((Upd.refl _ W2).putObj (fun _ => .inr (.inr rfl)) _)) (by rw [World.putObj_heap_other hn1]; exact hd)⟩
      · exact ⟨some .ret, _, by have := run_endLoop (P := P) hl (by rw [hrc]; simp); rw [hrc] at this; exact this, hstop .ret pre _ hSp (hIx _ _ _ _ hi ((Upd.refl _ W2).putObj (fun _ => .inr (.inr rfl)) _)) (by rw [World.putObj_heap_other hn1]; exact hd)⟩
end
end Go.Proofs.Ytijmbpokglohbaa

namespace Go.Proofs.Ytijmbpokglohbaa
abbrev Bs := List UInt8
/-- is k, ahead of t, a label's length? -/
def okL (k : UInt8) (t : Bs) : Bool := decide (1 ≤ k.toNat) && decide (k.toNat ≤ 63) && decide (k.toNat ≤ t.length)
theorem okL_iff {k : UInt8} {t : Bs} : okL k t = true ↔ 1 ≤ k.toNat ∧ k.toNat ≤ 63 ∧ k.toNat ≤ t.length := by
  simp [okL, and_assoc]
theorem okL_no {k : UInt8} {t : Bs} (h : okL k t = false) : k.toNat < 1 ∨ (1 ≤ k.toNat ∧ 63 < k.toNat) ∨ (1 ≤ k.toNat ∧ k.toNat ≤ 63 ∧ t.length < k.toNat) := by
  have h' : ¬ (1 ≤ k.toNat ∧ k.toNat ≤ 63 ∧ k.toNat ≤ t.length) := fun h2 => by rw [okL_iff.2 h2] at h; cases h
  omega
/-- what the iterator yields -/
def ylF : Nat → Bs → List (Bs × Bool)
  | 0, _ => []
  | _ + 1, [] => []
  | f + 1, k :: t => if okL k t then (t.take k.toNat, true) :: ylF f (t.drop k.toNat) else [([], false)]
theorem ylF_more : ∀ (f : Nat) (s : Bs), s.length ≤ f → ylF f s = ylF s.length s
  | 0, s, h => by
    have : s = [] := List.eq_nil_of_length_eq_zero (by omega)
    subst this; rfl
  | f + 1, [], _ => rfl
  | f + 1, k :: t, h => by
    simp only [List.length_cons] at h
    simp only [ylF, List.length_cons]
    split
    · rw [ylF_more f (t.drop k.toNat) (by simp; omega), ← ylF_more t.length (t.drop k.toNat) (by simp)]
    · rfl
def yl (s : Bs) : List (Bs × Bool) := ylF s.length s
theorem yl_nil : yl [] = [] := rfl
theorem yl_cons (k : UInt8) (t : Bs) : yl (k :: t) = if okL k t then (t.take k.toNat, true) :: yl (t.drop k.toNat) else [([], false)] := by
  unfold yl
  simp only [List.length_cons, ylF]
  split
  · rw [ylF_more t.length _ (by simp)]
  · rfl
/-- a name's labels, if it is one -/
def labF : Nat → Bs → Option (List Bs)
  | _, [] => some []
  | 0, _ :: _ => none
  | f + 1, k :: t => if okL k t then (labF f (t.drop k.toNat)).map (t.take k.toNat :: ·) else none
theorem labF_more : ∀ (f : Nat) (s : Bs), s.length ≤ f → labF f s = labF s.length s
  | 0, s, h => by
    have : s = [] := List.eq_nil_of_length_eq_zero (by omega)
    subst this; rfl
  | f + 1, [], _ => rfl
  | f + 1, k :: t, h => by
    simp only [List.length_cons] at h
    simp only [labF, List.length_cons]
    split
    · rw [labF_more f (t.drop k.toNat) (by simp; omega), ← labF_more t.length (t.drop k.toNat) (by simp)]
    · rfl
def lab (s : Bs) : Option (List Bs) := labF s.length s
theorem lab_nil : lab [] = some [] := rfl
theorem lab_cons (k : UInt8) (t : Bs) : lab (k :: t) = if okL k t then (lab (t.drop k.toNat)).map (t.take k.toNat :: ·) else none := by
  unfold lab
  simp only [List.length_cons, labF]
  split
  · rw [labF_more t.length _ (by simp)]
  · rfl
/-- induction along a name's labels -/
theorem lab_ind {P : Bs → Prop} (h0 : P []) (hk : ∀ k t, okL k t = true → P (t.drop k.toNat) → P (k :: t)) (hn : ∀ k t, okL k t = false → P (k :: t)) : ∀ s, P s := by
  have : ∀ (n : Nat) (s : Bs), s.length ≤ n → P s := by
    intro n
    induction n with
    | zero => intro s h; have : s = [] := List.eq_nil_of_length_eq_zero (by omega); subst this; exact h0
    | succ n ih =>
      intro s h
      cases s with
      | nil => exact h0
      | cons k t =>
        cases hok : okL k t with
        | true => exact hk k t hok (ih _ (by simp only [List.length_cons] at h; simp; omega))
        | false => exact hn k t hok
  exact fun s => this s.length s (Nat.le_refl _)
theorem yl_lab (s : Bs) : yl s = match lab s with | some l => l.map (·, true) | none => (yl s) := by
  revert s
  apply lab_ind
  · rfl
  · intro k t hok ih
    rw [lab_cons, if_pos hok, yl_cons, if_pos hok]
    cases hl : lab (t.drop k.toNat) with
    | none => rfl
    | some l => rw [hl] at ih; simp only [Option.map_some, List.map_cons]; rw [ih]
  · intro k t hok
    rw [lab_cons, if_neg (by rw [hok]; decide)]
/-- a list of labels that were all yielded, and then the end, or 'none' -/
theorem yl_some {s : Bs} {l : List Bs} (h : lab s = some l) : yl s = l.map (·, true) := by
  have := yl_lab s
  rw [h] at this; exact this
theorem yl_none {s : Bs} (h : lab s = none) : ∃ l : List Bs, yl s = l.map (·, true) ++ [([], false)] := by
  revert s
  apply lab_ind (P := fun s => lab s = none → ∃ l : List Bs, yl s = l.map (·, true) ++ [([], false)])
  · intro h; cases h
  · intro k t hok ih h
    rw [lab_cons, if_pos hok] at h
    obtain ⟨l, hl⟩ := ih (by cases hl : lab (t.drop k.toNat) with | none => rfl | some l => rw [hl] at h; cases h)
    exact ⟨t.take k.toNat :: l, by rw [yl_cons, if_pos hok, hl]; rfl⟩
  · intro k t hok _
    exact ⟨[], by rw [yl_cons, if_neg (by rw [hok]; decide)]; rfl⟩
theorem lab_join {s : Bs} {l : List Bs} (h : lab s = some l) : l.length ≤ s.length := by
  revert s l
  intro s
  revert s
  apply lab_ind (P := fun s => ∀ l : List Bs, lab s = some l → l.length ≤ s.length)
  · intro l h; cases h; simp
  · intro k t hok ih l h
    rw [lab_cons, if_pos hok] at h
    cases hl : lab (t.drop k.toNat) with
    | none => rw [hl] at h; cases h
    | some m =>
      rw [hl] at h; simp only [Option.map_some, Option.some.injEq] at h; subst h
      have := ih m hl
      simp only [List.length_drop] at this
      simp only [List.length_cons]; omega
  · intro k t hok l h
    rw [lab_cons, if_neg (by rw [hok]; decide)] at h; cases h
theorem yl_len : ∀ s : Bs, (yl s).length ≤ s.length + 1 := by
  apply lab_ind
  · simp [yl_nil]
  · intro k t hok ih
    rw [yl_cons, if_pos hok]
    have := (okL_iff.1 hok).1
    simp only [List.length_cons, List.length_drop] at ih ⊢; omega
  · intro k t hok
    rw [yl_cons, if_neg (by rw [hok]; decide)]; simp
/-- a name is cut: at most 254 bytes -/
def cutO (s : Bs) : Option (List Bs) := if 254 < s.length then none else lab s
def cutL (s : Bs) : List Bs := (cutO s).getD []
def cutB (s : Bs) : Bool := (cutO s).isSome
end Go.Proofs.Ytijmbpokglohbaa

namespace Go.Proofs.Ytijmbpokglohbaa
open Go.RowKit
set_option linter.unusedSimpArgs false
set_option linter.unusedVariables false
theorem ba_get (l : Bs) (i : Nat) (h : i < (⟨l.toArray⟩ : ByteArray).size) : (⟨l.toArray⟩ : ByteArray)[i]'h = l[i]'(by simpa [ByteArray.size] using h) := rfl
theorem wrap64_u8 (u : UInt8) : wrap64 (u.toNat : Int) = u.toNat := by
  have := u.toNat_lt
  simp only [wrap64]; omega
theorem ba_size (l : Bs) : (⟨l.toArray⟩ : ByteArray).size = l.length := rfl
theorem ba_ext (l : Bs) (a b : Nat) : (⟨l.toArray⟩ : ByteArray).extract a b = ⟨((l.take b).drop a).toArray⟩ := by
  apply ByteArray.ext
  rw [ByteArray.data_extract]
  simp [List.drop_take]
theorem ba_app (a b : Bs) : (⟨a.toArray⟩ : ByteArray) ++ ⟨b.toArray⟩ = ⟨(a ++ b).toArray⟩ := by
  apply ByteArray.ext
  simp
theorem ba_mk (s : ByteArray) : s = ⟨s.data.toList.toArray⟩ := by cases s; simp
theorem ba_inj {a b : Bs} : (⟨a.toArray⟩ : ByteArray) = ⟨b.toArray⟩ ↔ a = b := by
  constructor
  · intro h; injection h with h; simpa using h
  · rintro rfl; rfl
theorem app0 {w W w1 : World} {o : Obj} {e : TypeId} {sz n : Nat} {v : Value} {xs : List Value} (hu : Upd0 w W) (hrow : W.ownsRow w.heap.size e sz v n xs) (hg : (W.alloc o).grownBy w1 v.ownBlock) : Upd0 w w1 :=
  (hu.alloc o).grown hg (fun k hk hlt => by have := (hrow.lt k hk).1; omega)
/-- a list's tail from i on, in facts that a walk takes -/
theorem drop_facts {s : Bs} {i : Nat} (h : i < s.length) : ∃ k t, s.drop i = k :: t ∧ s[i] = k ∧ s.drop (i + 1) = t ∧ s.length ≤ i + 1 + t.length ∧ i + 1 + t.length ≤ s.length := by
  refine ⟨s[i], s.drop (i + 1), by simp, rfl, rfl, ?_, ?_⟩ <;> (simp; omega)
attribute [go_sem] ba_get wrap64_u8 ba_size ba_ext ba_app
end Go.Proofs.Ytijmbpokglohbaa

namespace Go.Proofs.Ytijmbpokglohbaa
open Go.RowKit Go.Shelf
set_option linter.unusedSimpArgs false
set_option linter.unusedVariables false
attribute [local go_sem] Oper.semAt_some
def encL (x : Bs × Bool) : Array Value := #[.string ⟨x.1.toArray⟩, .bool x.2]
def restOf (W : World) (cb : Nat) : Nat := match W.cell? ⟨cb, 0, none⟩ with | some (.string s) => s.size | _ => 0
set_option maxHeartbeats 1000000 in
theorem labels1_seq (s : Bs) (hs : s.length ≤ maxLen) (w : World) (cb : Nat) (hc : w.heap[cb]? = some (.cells #[.string ⟨s.toArray⟩] 29 (0, 0))) :
    SeqCell Fence.wide 3 Try.prog 118 cb #[.pointer (some ⟨cb, 0, none⟩)] encL (yl s) w := by
  intro l J Jx W hu hJs hY h0
  unfold maxLen at hs
  refine callsIn_of_wp Try.func118 rfl trivial ?_ rfl
  simp only [Try.ntmps118, List.size_toArray, List.length_cons, List.length_nil, Nat.reduceAdd, Nat.reduceSub, Array.replicate_succ, Array.replicate_zero, List.push_toArray, List.append_toArray, List.nil_append, List.cons_append]
  gi_wp2
  gi_loopw [] (fun wr => ∃ (pre : List (Bs × Bool)) (rest : Bs), yl s = pre ++ yl rest ∧ rest.length ≤ s.length ∧ wr.heap[cb]? = some (.cells #[.string ⟨rest.toArray⟩] 29 (0, 0)) ∧ J pre wr)
    (fun wr => restOf wr cb)
  case atStart => exact ⟨[], s, rfl, Nat.le_refl _, hu.block (fun h => h) hc, h0⟩
  case round =>
    obtain ⟨pre, rest, hx, hrl, hb, hJ⟩ := hrel
    have hc0 : wr.cell? ⟨cb, 0, none⟩ = some (.string ⟨rest.toArray⟩) := by simpa using blk_cell hb 0
    have hf0 := blk_frz hb 0
    have hro : restOf wr cb = rest.length := by simp [restOf, hc0, ByteArray.size]
    have hroh := Lib.hid hro
    have hxh := Lib.hid hx
    have hbh := Lib.hid hb
    clear hro hx hb
    cases rest with
    | nil =>
      gi_wp2
      go_end0
      exact ⟨⟨_, rfl⟩, .inl (by rw [hxh.out, yl_nil, List.append_nil]; exact hJ)⟩
    | cons k t =>
      cases hok : okL k t with
      | true =>
        obtain ⟨hk1, hk2, hk3⟩ := okL_iff.1 hok
        obtain ⟨fn, tmps, assign, body, hy, hR⟩ := hY pre (t.take k.toNat, true) wr ⟨yl (t.drop k.toNat), by rw [hxh.out, yl_cons, if_pos hok]; simp⟩ hJ
        simp only [encL] at hy
        simp only [List.length_cons] at hrl
        gi_wp2
        refine hR.mono ?_
        rintro e W3 (⟨rfl, hJ3, hk3'⟩ | ⟨rfl, hJx3⟩)
        · have hb3 : W3.heap[cb]? = _ := hk3'.trans hbh.out
          have hc3 : W3.cell? ⟨cb, 0, none⟩ = some (.string ⟨(k :: t).toArray⟩) := by simpa using blk_cell hb3 0
          have hf3 := blk_frz hb3 0
          have hb3h := Lib.hid hb3
          clear hb3 hk3'
          gi_wp2
          refine ⟨⟨pre ++ [(t.take k.toNat, true)], t.drop k.toNat, by rw [hxh.out, yl_cons, if_pos hok, List.append_assoc]; rfl, by simp; omega, by simpa using blk_set hb3h.out 0 _, hJs _ _ _ hJ3⟩, ?_⟩
          have hn : restOf (W3.setCell ⟨cb, 0, none⟩ (.string ⟨(t.drop k.toNat).toArray⟩)) cb = (t.drop k.toNat).length := by
            have : (W3.setCell ⟨cb, 0, none⟩ (.string ⟨(t.drop k.toNat).toArray⟩)).cell? ⟨cb, 0, none⟩ = some (.string ⟨(t.drop k.toNat).toArray⟩) := by
              simpa using blk_cell (blk_set hb3h.out 0 (.string ⟨(t.drop k.toNat).toArray⟩)) 0
            rw [restOf, this]; rfl
          rw [hn, hroh.out]; simp; omega
        · gi_wp2
          refine bodyPost_ret (results_none rfl _ _ _) rfl ?_
          exact ⟨⟨_, rfl⟩, .inr ⟨pre ++ [(t.take k.toNat, true)], ⟨yl (t.drop k.toNat), by rw [hxh.out, yl_cons, if_pos hok]; simp⟩, hJx3⟩⟩
      | false =>
        obtain ⟨fn, tmps, assign, body, hy, hR⟩ := hY pre ([], false) wr ⟨[], by rw [hxh.out, yl_cons, if_neg (by rw [hok]; decide), List.append_nil]⟩ hJ
        simp only [encL] at hy
        simp only [List.length_cons] at hrl
        have hno := okL_no hok
        have hfin := Lib.hid (show yl s = pre ++ [([], false)] by rw [hxh.out, yl_cons, if_neg (by rw [hok]; decide)])
        clear hok
        rcases hno with hk1 | ⟨hk1, hk2⟩ | ⟨hk1, hk2, hk3⟩
        all_goals
          gi_wp2
          refine hR.mono ?_
          rintro e W3 (⟨rfl, hJ3, hk3'⟩ | ⟨rfl, hJx3⟩)
          · clear hk3'
            gi_wp2
            refine bodyPost_ret (results_none rfl _ _ _) rfl ?_
            exact ⟨⟨_, rfl⟩, .inl (by rw [hfin.out]; exact hJ3)⟩
          · gi_wp2
            refine bodyPost_ret (results_none rfl _ _ _) rfl ?_
            exact ⟨⟨_, rfl⟩, .inr ⟨_, ⟨[], by rw [List.append_nil]; exact hfin.out.symm⟩, hJx3⟩⟩
theorem labels_any (s : Bs) (w : World) : CallsIn Fence.wide 3 Try.prog 102 #[.string ⟨s.toArray⟩] w fun e w' =>
    e = .returned (.func (.func 118) #[] #[.pointer (some ⟨w.heap.size, 0, none⟩)]) ∧ w' = w.alloc (.cells #[.string ⟨s.toArray⟩] 29) := by
  refine callsIn_of_wp Try.func102 rfl trivial ?_ rfl
  simp only [Try.ntmps102, List.size_toArray, List.length_cons, List.length_nil, Nat.reduceAdd, Nat.reduceSub, Array.replicate_succ, Array.replicate_zero, List.push_toArray, List.append_toArray, List.nil_append, List.cons_append]
  gi_wp2
  go_ret
  exact ⟨rfl, rfl⟩
end Go.Proofs.Ytijmbpokglohbaa

namespace Go.Proofs.Ytijmbpokglohbaa
open Go.RowKit Go.Shelf
set_option linter.unusedSimpArgs false
set_option linter.unusedVariables false
attribute [local go_sem] Oper.semAt_some
theorem info_str : (Try.prog.info? 9).map (fun i => (i.zero, i.size, i.bytes)) = some (some (.string .empty), 1, 16) := by kernel_rfl
def strs (l : List Bs) : List Value := l.map fun s => .string ⟨s.toArray⟩
theorem box_upd {S : Nat → Prop} {w w' : World} {B : Nat} {t : TypeId} {v : Value} (h : Boxed w B t v) (k : Upd S w w') (hn : ¬ S B) : Boxed w' B t v := k.block hn h
theorem below_upd {S : Nat → Prop} {B : Nat} {a w w' : World} (h : Below B a w) (k : Upd S w w') (hn : ∀ n, S n → B ≤ n) (hB : B ≤ a.heap.size) : Below B a w' :=
  h.trans (k.below (Nat.le_trans hB h.size) hn)
/-- what holds between two rounds of cut's loop: base n0 (the heap's size when cut was called) -/
structure CutI (n0 : Nat) (w : World) (pre : List (Bs × Bool)) (W : World) (v : Value) : Prop where
  b0 : Boxed W n0 43 (.slice none 0 0)
  b1 : Boxed W (n0 + 1) 4 (.bool false)
  b2 : Boxed W (n0 + 2) 43 v
  row : W.ownsRow (n0 + 6) 9 1 v pre.length (strs (pre.map (·.1)))
  all : pre.all (·.2) = true
  bel : Below n0 w W
structure CutX (n0 : Nat) (w W : World) : Prop where
  b0 : Boxed W n0 43 (.slice none 0 0)
  b1 : Boxed W (n0 + 1) 4 (.bool false)
  bel : Below n0 w W
theorem cutI_upd {n0 : Nat} {w A A' : World} {pre : List (Bs × Bool)} {v : Value} (h : CutI n0 w pre A v) (k : Upd (fun k => k = n0 + 3 ∨ k = n0 + 4 ∨ k = n0 + 5) A A') (hn : n0 ≤ w.heap.size) : CutI n0 w pre A' v :=
  ⟨box_upd h.b0 k (by omega), box_upd h.b1 k (by omega), box_upd h.b2 k (by omega), ownsRow_upd h.row k (fun g hg e => by have := (h.row.lt g hg).1; omega), h.all, below_upd h.bel k (fun n e => by omega) hn⟩
theorem cutX_upd {n0 : Nat} {w A A' : World} (h : CutX n0 w A) (k : Upd (fun k => k = n0 + 3 ∨ k = n0 + 4 ∨ k = n0 + 5) A A') (hn : n0 ≤ w.heap.size) : CutX n0 w A' :=
  ⟨box_upd h.b0 k (by omega), box_upd h.b1 k (by omega), below_upd h.bel k (fun n e => by omega) hn⟩
theorem cut_le {pre : List (Bs × Bool)} {x : Bs × Bool} {s : Bs} (h : (pre ++ [x]) <+: yl s) : pre.length ≤ s.length := by
  have h1 := h.length_le
  have h2 := yl_len s
  simp at h1; omega
theorem cut_no {pre : List (Bs × Bool)} {x : Bs} {s : Bs} (h : (pre ++ [(x, false)]) <+: yl s) : lab s = none := by
  cases hl : lab s with
  | none => rfl
  | some l =>
    rw [yl_some hl] at h
    have := h.subset (show (x, false) ∈ pre ++ [(x, false)] by simp)
    simp at this
theorem cut_app {n0 : Nat} {w W w1 : World} {pre : List (Bs × Bool)} {v : Value} {o : Obj} (h : CutI n0 w pre W v) (hlt : n0 + 5 < W.heap.size) (hg : (W.alloc o).grownBy w1 v.ownBlock) :
    w1.cell? ⟨n0 + 2, 0, none⟩ = some v ∧ w1.frozen? ⟨n0 + 2, 0, none⟩ = false ∧ Upd (fun k => v.ownBlock = some k) W w1 := by
  have hu : Upd (fun k => v.ownBlock = some k) W w1 := ((Upd.refl _ W).alloc o).grown hg (fun k e _ => e)
  have hb := box_upd h.b2 hu (fun e => by have := (h.row.lt _ e).1; omega)
  exact ⟨hb.cell, hb.frozen, hu⟩
theorem cut_step {n0 : Nat} {w W w1 : World} {pre : List (Bs × Bool)} {v v' : Value} {x : Bs} (hn : n0 ≤ w.heap.size) (h : CutI n0 w pre W v) (hlt : n0 + 5 < W.heap.size) (hu : Upd (fun k => v.ownBlock = some k) W w1)
    (hrow : w1.ownsRow (n0 + 6) 9 1 v' (pre.length + 1) (strs (pre.map (·.1)) ++ [.string ⟨x.toArray⟩])) :
    Kept3 (n0 + 3) (n0 + 4) W (w1.setCell ⟨n0 + 2, 0, none⟩ v') ∧ CutI n0 w (pre ++ [(x, true)]) (w1.setCell ⟨n0 + 2, 0, none⟩ v') v' := by
  have hf : ∀ k, k < n0 + 6 → ¬ v.ownBlock = some k := fun k hk e => by have := (h.row.lt _ e).1; omega
  have hb2 := box_upd h.b2 hu (hf _ (by omega))
  have hs : Upd (fun k => k = n0 + 2) w1 (w1.setCell ⟨n0 + 2, 0, none⟩ v') := (Upd.refl (fun k => k = n0 + 2) w1).setCell (p := ⟨n0 + 2, 0, none⟩) (fun _ => rfl) _
  have hu2 : Upd (fun k => v.ownBlock = some k ∨ k = n0 + 2) W (w1.setCell ⟨n0 + 2, 0, none⟩ v') := (hu.mono (fun _ _ h => .inl h)).setCell (fun _ => .inr rfl) _
  have hk : ∀ k, k < n0 + 6 → k ≠ n0 + 2 → (w1.setCell ⟨n0 + 2, 0, none⟩ v').heap[k]? = W.heap[k]? := fun k hk hne => hu2.keep k (by omega) (fun e => e.elim (hf k hk) hne)
  refine ⟨⟨hu2.size, hk _ (by omega) (by omega), hk _ (by omega) (by omega), hk _ (by omega) (by omega)⟩, ?_, ?_, hb2.set _, ?_, ?_, ?_⟩
  · exact (hk _ (by omega) (by omega)).trans h.b0
  · exact (hk _ (by omega) (by omega)).trans h.b1
  · have := ownsRow_upd hrow hs (fun g hg e => by have := (hrow.lt g hg).1; omega)
    simpa [strs] using this
  · simp [h.all]
  · exact below_upd h.bel hu2 (fun n e => e.elim (fun e => by have := (h.row.lt _ e).1; omega) (fun e => by omega)) hn
theorem cut_stop {n0 : Nat} {w W : World} (hn : n0 ≤ w.heap.size) (h : CutX n0 w W) :
    Kept3 (n0 + 3) (n0 + 4) W ((W.setCell ⟨n0, 0, none⟩ (.slice none 0 0)).setCell ⟨n0 + 1, 0, none⟩ (.bool false)) ∧ CutX n0 w ((W.setCell ⟨n0, 0, none⟩ (.slice none 0 0)).setCell ⟨n0 + 1, 0, none⟩ (.bool false)) := by
  have hu : Upd (fun k => k = n0 ∨ k = n0 + 1) W ((W.setCell ⟨n0, 0, none⟩ (.slice none 0 0)).setCell ⟨n0 + 1, 0, none⟩ (.bool false)) := ((Upd.refl _ W).setCell (fun _ => .inl rfl) _).setCell (fun _ => .inr rfl) _
  have h1 : Boxed (W.setCell ⟨n0, 0, none⟩ (.slice none 0 0)) (n0 + 1) 4 (.bool false) := (Below.heap_setCell _ _ _ _ (by simp)).trans h.b1
  refine ⟨⟨hu.size, ?_, ?_, ?_⟩, ?_, h1.set _, below_upd h.bel hu (fun n e => by omega) hn⟩
  · rw [Below.heap_setCell _ _ _ _ (by simp), Below.heap_setCell _ _ _ _ (by simp)]
  · rw [Below.heap_setCell _ _ _ _ (by simp), Below.heap_setCell _ _ _ _ (by simp)]
  · rw [Below.heap_setCell _ _ _ _ (by simp), Below.heap_setCell _ _ _ _ (by simp only []; omega)]
  · exact (Below.heap_setCell _ _ _ _ (by simp)).trans (h.b0.set _)
theorem cut_end {n0 : Nat} {w W : World} {ao : Option Addr} {n cap : Nat} {xs : List Value} (hn : n0 ≤ w.heap.size) (h0 : Boxed W n0 43 (.slice none 0 0)) (h1 : Boxed W (n0 + 1) 4 (.bool false)) (hr : W.ownsRow (n0 + 6) 9 1 (.slice ao n cap) n xs) (hb : Below n0 w W) (W' : World)
    (hW : ((W.setCell ⟨n0, 0, none⟩ (.slice ao n cap)).setCell ⟨n0 + 1, 0, none⟩ (.bool true)).putObj (n0 + 4) (.deferred none) = W') :
    W'.cell? ⟨n0, 0, none⟩ = some (.slice ao n cap) ∧ W'.cell? ⟨n0 + 1, 0, none⟩ = some (.bool true) ∧ W'.ownsRow n0 9 1 (.slice ao n cap) n xs ∧ Below n0 w W' := by
  have hu : Upd (fun k => k = n0 ∨ k = n0 + 1 ∨ k = n0 + 4) W W' := by
    rw [← hW]; exact (((Upd.refl _ W).setCell (fun _ => .inl rfl) _).setCell (fun _ => .inr (.inl rfl)) _).putObj (fun _ => .inr (.inr rfl)) _
  have e0 : Boxed W' n0 43 (.slice ao n cap) := by
    rw [← hW]
    exact (World.putObj_heap_other (by omega)).trans ((Below.heap_setCell _ _ _ _ (by simp)).trans (h0.set _))
  have e1 : Boxed W' (n0 + 1) 4 (.bool true) := by
    rw [← hW]
    have h1' : Boxed (W.setCell ⟨n0, 0, none⟩ (.slice ao n cap)) (n0 + 1) 4 (.bool false) := (Below.heap_setCell _ _ _ _ (by simp)).trans h1
    exact (World.putObj_heap_other (by omega)).trans (h1'.set _)
  refine ⟨e0.cell, e1.cell, ?_, below_upd hb hu (fun n e => by omega) hn⟩
  exact ownsRow_mono (ownsRow_upd hr hu (fun g hg e => by have := (hr.lt g hg).1; omega)) (fun g hg => by have := (hr.lt g hg).1; omega)
theorem cut_yes {s : Bs} (hs : s.length ≤ 254) (h : (yl s).all (·.2) = true) : cutB s = true ∧ cutL s = (yl s).map (·.1) := by
  cases hl : lab s with
  | none =>
    obtain ⟨l, hl'⟩ := yl_none hl
    rw [hl'] at h
    simp at h
  | some l =>
    have : cutO s = some l := by rw [cutO, if_neg (by omega), hl]
    rw [cutB, cutL, this, yl_some hl]
    exact ⟨rfl, by rw [List.map_map]; exact (List.map_id l).symm⟩
theorem cut_none {s : Bs} (h : lab s = none) : cutB s = false ∧ cutL s = [] := by
  have : cutO s = none := by rw [cutO, h]; simp
  rw [cutB, cutL, this]; exact ⟨rfl, rfl⟩
set_option maxRecDepth 100000 in
set_option maxHeartbeats 1000000 in
theorem cut_in (s : Bs) (hs : s.length ≤ 254) (w : World) : CallsIn Fence.wide 4 Try.prog 86 #[.string ⟨s.toArray⟩] w fun e w' =>
    ∃ ao cap, e = .returned (.tuple #[.slice ao (cutL s).length cap, .bool (cutB s)]) ∧ w'.ownsRow w.heap.size 9 1 (.slice ao (cutL s).length cap) (cutL s).length (strs (cutL s)) ∧ Below w.heap.size w w' := by
  obtain ⟨i0, hi, hz0, hz1, hz2⟩ := info_parts info_str
  refine callsIn_of_wp_marks Try.func86 rfl trivial ?_ rfl
  simp only [Try.ntmps86, List.size_toArray, List.length_cons, List.length_nil, Nat.reduceAdd, Nat.reduceSub, Array.replicate_succ, Array.replicate_zero, List.push_toArray, List.append_toArray, List.nil_append, List.cons_append]
  gi_wp2_with (refine ⟨trivial, ?_⟩; gi_at_call 102; refine (labels_any _ _).mono ?_; rintro e w' ⟨rfl, rfl⟩)
  obtain ⟨W0, hW0⟩ : ∃ W0, ((((w.alloc (.cells #[.slice none 0 0] 43)).alloc (.cells #[.bool false] 4)).alloc (.cells #[.slice none 0 0] 43)).alloc (.cells #[.string ⟨s.toArray⟩] 29)) = W0 := ⟨_, rfl⟩
  have hz : W0.heap.size = w.heap.size + 4 := by rw [← hW0]; simp
  have hcb : W0.heap[w.heap.size + 3]? = some (.cells #[.string ⟨s.toArray⟩] 29 (0, 0)) := by rw [← hW0]; exact alloc_last _ _ _ (by simp)
  have hI0 : CutI w.heap.size w [] W0 (.slice none 0 0) := by
    rw [← hW0]
    refine ⟨blk_alloc (blk_alloc (blk_alloc (alloc_last _ _ _ rfl))), blk_alloc (blk_alloc (alloc_last _ _ _ (by simp))), blk_alloc (alloc_last _ _ _ (by simp)), World.ownsRow_nil _ _ _ _, rfl, ?_⟩
    exact ((((Below.refl _ w).alloc (Nat.le_refl _) _).alloc (by simp) _).alloc (by simp; omega) _).alloc (by simp; omega) _
  have hq : w.heap.size + 1 + 1 + 1 = w.heap.size + 3 := rfl
  have hq2 : w.heap.size + 1 + 1 = w.heap.size + 2 := rfl
  rw [hW0]
  clear hW0
  refine wpIn_range_cell rfl (by omega) (gf := 118) (cb := w.heap.size + 3) (lb := #[.pointer (some ⟨w.heap.size + 3, 0, none⟩)]) rfl trivial (enters_of Try.func118 (by kernel_rfl) rfl)
    (encs := encL) (xs0 := yl s) (labels1_seq s (by unfold maxLen; omega) W0 _ hcb) (by omega) (fun x => rfl)
    (fun pre W => ∃ v, CutI w.heap.size w pre W v) (fun c pre W => c = .ret ∧ lab s = none ∧ CutX w.heap.size w W)
    (fun p A A' ⟨v, h⟩ k => ⟨v, cutI_upd h (k.mono (fun n _ hn => by rw [hz] at hn; omega)) (Nat.le_refl _)⟩)
    (fun c p A A' ⟨h1, h2, h⟩ k => ⟨h1, h2, cutX_upd h (k.mono (fun n _ hn => by rw [hz] at hn; omega)) (Nat.le_refl _)⟩)
    (fun W hu => ⟨_, cutI_upd hI0 (hu.mono (fun _ _ h => h.elim)) (Nat.le_refl _)⟩)
    (fun x => { tmps := #[.string ⟨s.toArray⟩, undef, .pointer (some ⟨w.heap.size, 0, none⟩), .pointer (some ⟨w.heap.size + 1, 0, none⟩), .pointer (some ⟨w.heap.size + 2, 0, none⟩), .string ⟨x.1.toArray⟩, .bool x.2, .string ⟨s.toArray⟩, .int .i64 s.length, .bool (decide (254 < (s.length : Int))), .string ⟨s.toArray⟩, .func (.func 118) #[] #[.pointer (some ⟨w.heap.size + 3, 0, none⟩)], .string ⟨x.1.toArray⟩, .bool x.2, undef, undef, undef, undef, undef, undef, undef], defers := [] }) ?assign ?body ?done ?stop
  case assign =>
    rintro l ⟨x, ok⟩ W K hK
    simp only [encL]
    gi_wp2
    exact hK
  case body =>
    rintro l pre ⟨x, ok⟩ W hlt hpx ⟨v, hI⟩
    rw [hz] at hlt
    cases ok with
    | true =>
      obtain ⟨ao, cap, rfl⟩ := ownsRow_slice hI.row
      have c2 := hI.b2.cell
      have f2 := hI.b2.frozen
      have hle := cut_le hpx
      have hIh := Lib.hid hI
      have hrow := Lib.hid hI.row
      clear hpx hI
      gi_wp2_with (gi_at_builtin; refine wpListIn_append_own _ rfl _ _ 43 rfl (w.heap.size + 6) 9 i0 (.string .empty) 1 16 Try.underlying43 hi hz0 hz1 hz2 rfl (by decide) _ _ _ rfl (hrow.out.alloc _) ⟨W.heap.size, 0, none⟩ 1 1 [.string ⟨x.toArray⟩] rfl rfl (cell_one_new _ _ _) (by simp [Value.oneCell']) (by unfold maxLen; omega) (by omega) (by simp only [World.size_alloc]; omega) ?_; intro v' w1 hown' hgrow _; obtain ⟨g', cap', rfl⟩ := ownsRow_succ hown'; obtain ⟨d1, d2, d3⟩ := cut_app hIh.out hlt hgrow; have hownh := Lib.hid hown'; clear hown' hgrow)
      have h2 := cut_step (Nat.le_refl _) hIh.out hlt d3 hownh.out
      exact ⟨h2.1, _, h2.2⟩
    | false =>
      have c0 := hI.b0.cell
      have c1 := hI.b1.cell
      have f0 := hI.b0.frozen
      have f1 := hI.b1.frozen
      have hno := Lib.hid (cut_no hpx)
      have hIh := Lib.hid hI
      clear hpx hI
      gi_wp2
      have hX : CutX w.heap.size w W := ⟨hIh.out.b0, hIh.out.b1, hIh.out.bel⟩
      have h2 := cut_stop (Nat.le_refl _) hX
      exact ⟨h2.1, rfl, hno.out, h2.2⟩
  case done =>
    rintro W ⟨v, hI⟩ hK
    obtain ⟨ao, cap, rfl⟩ := ownsRow_slice hI.row
    have c0 := hI.b0.cell
    have c1 := hI.b1.cell
    have c2 := hI.b2.cell
    have f0 := hI.b0.frozen
    have f1 := hI.b1.frozen
    have hIh := Lib.hid hI
    clear hI
    gi_wp2
    rw [hz] at hK
    obtain ⟨W', hW'⟩ : ∃ W', ((W.setCell ⟨w.heap.size, 0, none⟩ (.slice ao (yl s).length cap)).setCell ⟨w.heap.size + 1, 0, none⟩ (.bool true)).putObj (w.heap.size + 4) (.deferred none) = W' := ⟨_, rfl⟩
    obtain ⟨d0, d1, d2, d3⟩ := cut_end (Nat.le_refl _) hIh.out.b0 hIh.out.b1 hIh.out.row hIh.out.bel W' hW'
    have hK' : ((W.setCell ⟨w.heap.size, 0, none⟩ (.slice ao (yl s).length cap)).setCell ⟨w.heap.size + 1, 0, none⟩ (.bool true)).heap[w.heap.size + 4]? = some (.deferred (some [])) := by
      rw [Below.heap_setCell _ _ _ _ (by simp), Below.heap_setCell _ _ _ _ (by simp)]; exact hK
    refine ⟨by simp, .inl ⟨_, _, rfl, run_takeDeferred hK', ?_⟩⟩
    rw [hW']
    obtain ⟨y1, y2⟩ := cut_yes hs hIh.out.all
    have hl : (yl s).length = (cutL s).length := by rw [y2, List.length_map]
    rw [← y2] at d2
    rw [hl] at d0 d2
    exact ⟨.tuple #[.slice ao (cutL s).length cap, .bool (cutB s)], by simp [results, Try.results86, go_sem, d0, d1, y1], ao, cap, rfl, d2, d3⟩
  case stop =>
    rintro c pre W hpx ⟨rfl, hno, hX⟩ hK
    gi_wp2
    rw [hz] at hK
    have hu : Upd (fun k => k = w.heap.size + 3 ∨ k = w.heap.size + 4 ∨ k = w.heap.size + 5) W (W.putObj (w.heap.size + 4) (.deferred none)) := (Upd.refl _ W).putObj (fun _ => .inr (.inl rfl)) _
    have hX' := cutX_upd hX hu (Nat.le_refl _)
    refine ⟨by simp, .inl ⟨_, _, rfl, run_takeDeferred hK, ?_⟩⟩
    have c0 := hX'.b0.cell
    have c1 := hX'.b1.cell
    obtain ⟨y1, y2⟩ := cut_none hno
    refine ⟨.tuple #[.slice none 0 0, .bool false], by simp [results, Try.results86, go_sem, c0, c1], none, 0, ?_, ?_, hX'.bel⟩
    · rw [y1, y2]; rfl
    · rw [y2]; exact World.ownsRow_nil _ _ _ _
set_option maxRecDepth 100000 in
theorem cut_long (s : Bs) (hs : 254 < s.length) (hm : s.length ≤ maxLen) (w : World) : Calls Try.prog 86 #[.string ⟨s.toArray⟩] w (Rets fun r w' =>
    r = .tuple #[.slice none 0 0, .bool false] ∧ Below w.heap.size w w') := by
  unfold maxLen at hm
  go_enter Try.func86, Try.ntmps86
  go_wp2_with fail
  refine bodyPost_ret (v := .tuple #[.slice none 0 0, .bool false]) (by simp [results, Try.results86, go_sem]) rfl ⟨rfl, ?_⟩
  exact ((Below.refl _ w).alloc (Nat.le_refl _) _).alloc (by simp) _
theorem cut_any (s : Bs) (hm : s.length ≤ maxLen) (w : World) : Calls Try.prog 86 #[.string ⟨s.toArray⟩] w (Rets fun r w' =>
    ∃ ao cap, r = .tuple #[.slice ao (cutL s).length cap, .bool (cutB s)] ∧ w'.ownsRow w.heap.size 9 1 (.slice ao (cutL s).length cap) (cutL s).length (strs (cutL s)) ∧ Below w.heap.size w w') := by
  by_cases hs : s.length ≤ 254
  · refine (callsIn_wide.1 (cut_in s hs w)).mono fun e w' ⟨ao, cap, he, h1, h2⟩ => ?_
    subst he
    exact ⟨ao, cap, rfl, h1, h2⟩
  · refine (cut_long s (by omega) hm w).mono fun e w' he => ?_
    cases e with
    | returned r =>
      obtain ⟨rfl, h2⟩ := he
      have : cutO s = none := by rw [cutO, if_pos (by omega)]
      have h1 : cutL s = [] := by rw [cutL, this]; rfl
      have h3 : cutB s = false := by rw [cutB, this]; rfl
      refine ⟨none, 0, ?_, ?_, h2⟩
      · rw [h1, h3]; rfl
      · rw [h1]; exact World.ownsRow_nil _ _ _ _
    | _ => exact he.elim
end Go.Proofs.Ytijmbpokglohbaa
