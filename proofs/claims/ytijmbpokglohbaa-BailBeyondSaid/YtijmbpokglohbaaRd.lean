/-
  What an argument's reading says of memory, by the shape of its type; a law's post from 'it returned true and changed nothing that was there'.
-/
import Derived.Test.YtijmbpokglohbaaKa
import Derived.Test.YtijmbpokglohbaaRows
import Derived.ProofKit
import Derived.Carry
import Derived.Deep.Slices
import Derived.JoinedCond
namespace Go.Proofs.Ytijmbpokglohbaa
open Go.ChangeShapes Go.WideShapes Go.ChangeAt Go.RowKit
set_option linter.unusedSimpArgs false
set_option linter.unusedVariables false

inductive Ty where
  | bool | int (k : IntKind) | str | slice (e : Ty) | st (fs : Ty) | fin | cons (f fs : Ty)
def Ty.cells : Ty → Nat
  | .bool => 1 | .int _ => 1 | .str => 1 | .slice _ => 1 | .st fs => fs.cells | .fin => 0 | .cons f fs => f.cells + fs.cells
/-- does the program's type t have this shape? (of fields: 'sum.inr') -/
def Ty.fits (P : Program) : Ty → TypeId ⊕ (List Field × Nat) → Bool
  | .bool, .inl t => match P.underlying t with | some .bool => P.cellsOf t == 1 | _ => false
  | .int k, .inl t => match P.underlying t with | some (.int k') => decide (k' = k) && P.cellsOf t == 1 | _ => false
  | .str, .inl t => match P.underlying t with | some .string => P.cellsOf t == 1 | _ => false
  | .slice e, .inl t => match P.underlying t with | some (.slice u) => e.fits P (.inl u) && P.cellsOf u == e.cells && P.cellsOf t == 1 | _ => false
  | .st fs, .inl t => match P.underlying t with | some (.struct flds) => fs.fits P (.inr (flds.toList, 0)) && P.cellsOf t == fs.cells | _ => false
  | .fin, .inr ([], _) => true
  | .cons f fs, .inr (x :: xs, off) => f.fits P (.inl x.type) && x.offset == off && P.cellsOf x.type == f.cells && fs.fits P (.inr (xs, off + f.cells))
  | _, _ => false
def Reads (w : World) : Ty → List Value → Prop
  | .bool, cs => ∃ b, cs = [.bool b]
  | .int k, cs => ∃ n, cs = [.int k n] ∧ k.min ≤ n ∧ n ≤ k.max
  | .str, cs => ∃ s, cs = [.string s] ∧ s.size ≤ maxLen
  | .slice e, cs => cs = [.slice none 0 0] ∨ ∃ a len cap, cs = [.slice (some a) len cap] ∧ len ≤ cap ∧ cap ≤ maxLen ∧ ∀ i, i < len → ∃ cs', cs'.length = e.cells ∧ (∀ j u, cs'[j]? = some u → w.cell? (a.add (i * e.cells + j)) = some u) ∧ Reads w e cs'
  | .st fs, cs => Reads w fs cs
  | .fin, cs => cs = []
  | .cons f fs, cs => ∃ c1 c2, cs = c1 ++ c2 ∧ Reads w f c1 ∧ Reads w fs c2
section
variable {H : Type} {enc : TypeId × Value → H} {P : Program} {w : World} {base : Nat} {spare : Nat → Bool} {held : Bool}
/-- what is read of a type, or of the fields of one -/
theorem reads_of : ∀ (ty : Ty),
    (∀ (t : TypeId) (fuel : Nat) (cs : List Value) (x : DataW H × List MemPlace), ty.fits P (.inl t) = true → DataW.trod enc P w base spare held fuel t cs = some x → Reads w ty cs ∧ cs.length = ty.cells) ∧
    (∀ (flds : List Field) (off n : Nat) (cs : List Value), ty.fits P (.inr (flds, off)) = true → cs.length = off + ty.cells →
      (∀ f ∈ flds, ∃ y, DataW.trod enc P w base spare held n f.type ((cs.drop f.offset).take (P.cellsOf f.type)) = some y) → Reads w ty (cs.drop off)) := by
  intro ty
  induction ty with
  | bool =>
    refine ⟨fun t fuel cs x hf h => ?_, fun flds off n cs hf => by simp [Ty.fits] at hf⟩
    simp only [Ty.fits] at hf
    split at hf
    · rename_i ht
      obtain ⟨b, rfl, _⟩ := DataW.trod_bool ht h
      exact ⟨⟨b, rfl⟩, rfl⟩
    · cases hf
  | int k =>
    refine ⟨fun t fuel cs x hf h => ?_, fun flds off n cs hf => by simp [Ty.fits] at hf⟩
    simp only [Ty.fits] at hf
    split at hf
    · rename_i k' ht
      simp only [Bool.and_eq_true, decide_eq_true_eq] at hf
      obtain ⟨rfl, _⟩ := hf
      obtain ⟨n, rfl, _, hw⟩ := DataW.trod_int ht h
      simp only [Lit.wf, Bool.and_eq_true, decide_eq_true_eq] at hw
      exact ⟨⟨n, rfl, hw.1, hw.2⟩, rfl⟩
    · cases hf
  | str =>
    refine ⟨fun t fuel cs x hf h => ?_, fun flds off n cs hf => by simp [Ty.fits] at hf⟩
    simp only [Ty.fits] at hf
    split at hf
    · rename_i ht
      obtain ⟨s, rfl, _, hs⟩ := DataW.trod_string ht h
      exact ⟨⟨s, rfl, hs⟩, rfl⟩
    · cases hf
  | slice e ih =>
    refine ⟨fun t fuel cs x hf h => ?_, fun flds off n cs hf => by simp [Ty.fits] at hf⟩
    simp only [Ty.fits] at hf
    split at hf
    · rename_i u ht
      simp only [Bool.and_eq_true, beq_iff_eq] at hf
      obtain ⟨⟨he, hc⟩, _⟩ := hf
      rcases Go.Deep.open_slice ht h with ⟨rfl, _⟩ | ⟨a, len, cap, m, n, D, Pl, rfl, _, hl, hm, hmm, _, hel⟩
      · exact ⟨.inl rfl, rfl⟩
      · refine ⟨.inr ⟨a, len, cap, rfl, hl, hm, fun i hi => ?_⟩, rfl⟩
        obtain ⟨cs', h1, h2⟩ := hel i (by rw [hmm]; split <;> omega)
        obtain ⟨_, h3, h4⟩ := World.cells?_some h1
        obtain ⟨r1, r2⟩ := ih.1 u n cs' _ he h2
        refine ⟨cs', r2, fun j u' hj => ?_, r1⟩
        have hlt : j < cs'.length := by
          by_cases h : j < cs'.length
          · exact h
          · rw [List.getElem?_eq_none (by omega)] at hj; cases hj
        have := h4 j (by omega)
        rw [hj, hc, Go.Deep.add_add] at this
        exact this
    · cases hf
  | st fs ih =>
    refine ⟨fun t fuel cs x hf h => ?_, fun flds off n cs hf => by simp [Ty.fits] at hf⟩
    simp only [Ty.fits] at hf
    split at hf
    · rename_i flds ht
      simp only [Bool.and_eq_true, beq_iff_eq] at hf
      obtain ⟨xs, n, _, _, hl, hlen, hfd⟩ := DataW.trod_struct ht h
      have := ih.2 flds.toList 0 n cs hf.1 (by omega) (fun f hfm => by
        obtain ⟨i, hi, rfl⟩ := List.getElem_of_mem hfm
        have hi' : i < flds.size := by simpa using hi
        have h5 := hfd i flds[i] (by simp [hi'])
        rw [List.getElem?_eq_getElem (by omega)] at h5
        exact ⟨_, by simpa using h5⟩)
      exact ⟨by simpa [Reads] using this, by rw [hl, hf.2]; rfl⟩
    · cases hf
  | fin =>
    refine ⟨fun t fuel cs x hf => by simp [Ty.fits] at hf, fun flds off n cs hf hl _ => ?_⟩
    simp only [Reads]
    exact List.drop_eq_nil_of_le (by simp [Ty.cells] at hl; omega)
  | cons f fs ihf ihs =>
    refine ⟨fun t fuel cs x hf => by simp [Ty.fits] at hf, fun flds off n cs hf hl hfd => ?_⟩
    match flds, hf, hfd with
    | x :: xs, hf, hfd =>
      simp only [Ty.fits, Bool.and_eq_true, beq_iff_eq] at hf
      obtain ⟨⟨⟨h1, h2⟩, h3⟩, h4⟩ := hf
      obtain ⟨y, hy⟩ := hfd x (by simp)
      rw [h2, h3] at hy
      have r1 := ihf.1 x.type n _ y h1 hy
      have r2 := ihs.2 xs (off + f.cells) n cs h4 (by simp [Ty.cells] at hl; omega) (fun f hf => hfd f (by simp [hf]))
      exact ⟨(cs.drop off).take f.cells, cs.drop (off + f.cells), by rw [← List.drop_drop, List.take_append_drop], r1.1, r2⟩
theorem reads_trod {ty : Ty} {t : TypeId} {v : Value} {d : DataW H} {ps : List MemPlace} (hf : ty.fits P (.inl t) = true) (h : DataW.Trod enc P w base spare held t v d ps) : Reads w ty v.cells.toList := by
  obtain ⟨fuel, h⟩ := h
  exact ((reads_of (H := H) ty).1 t fuel _ _ hf h).1
end
/-- a slice, element by element, as a list of one's own -/
theorem reads_list {α : Type} {w : World} {e : Ty} {f : α → List Value} (hd : ∀ cs, Reads w e cs → ∃ x, cs = f x) {a : Addr} {len : Nat} (h : ∀ i, i < len → ∃ cs', cs'.length = e.cells ∧ (∀ j u, cs'[j]? = some u → w.cell? (a.add (i * e.cells + j)) = some u) ∧ Reads w e cs') :
    ∃ l : List α, l.length = len ∧ ∀ (i : Nat) (x : α), l[i]? = some x → ∀ (j : Nat) (u : Value), (f x)[j]? = some u → w.cell? (a.add (i * e.cells + j)) = some u := by
  induction len with
  | zero => exact ⟨[], rfl, fun i x hx => by cases hx⟩
  | succ n ih =>
    obtain ⟨l, hl, hx⟩ := ih (fun i hi => h i (by omega))
    obtain ⟨cs', h1, h2, h3⟩ := h n (by omega)
    obtain ⟨x, rfl⟩ := hd _ h3
    refine ⟨l ++ [x], by simp [hl], fun i y hy j u hj => ?_⟩
    by_cases hi : i < n
    · rw [List.getElem?_append_left (by omega)] at hy
      exact hx i y hy j u hj
    · rw [List.getElem?_append_right (by omega)] at hy
      have hin : i - l.length = 0 := by
        by_cases h0 : i - l.length = 0
        · exact h0
        · rw [List.getElem?_eq_none (by simp; omega)] at hy; cases hy
      rw [hin] at hy
      cases hy
      have : i = n := by omega
      subst this
      exact h2 j u hj
section
variable {H : Type} {enc : TypeId × Value → H} {P : Program}
theorem trodAll_carry (hl : laidOutB P = true) {W W' : World} (hB : Below W.heap.size W W') : ∀ (ts : List TypeId) (vs : List Value) (ds : List (DataW H)) (ps : List MemPlace), ts.all (fun t => P.readableRec t && decide (t < P.types.size)) = true →
    DataW.TrodAll enc P W 0 (fun _ => true) true ts vs ds ps → (∀ x ∈ ps, x.block < W.heap.size) → DataW.TrodAll enc P W' 0 (fun b => decide (b < W.heap.size)) true ts vs ds ps
  | [], [], [], ps, _, h, _ => h
  | t :: ts, v :: vs, d :: ds, ps, ht, h, hp => by
    obtain ⟨p, q, h1, h2, rfl⟩ := h
    simp only [List.all_cons, Bool.and_eq_true, decide_eq_true_eq] at ht
    exact ⟨p, q, Below.trod hl ht.1.1 ht.1.2 h1 hB (fun x hx => hp x (by simp [hx])), trodAll_carry hl hB ts vs ds q ht.2 h2 (fun x hx => hp x (by simp [hx])), rfl⟩
  | [], [], _ :: _, _, _, h, _ => h.elim
  | [], _ :: _, _, _, _, h, _ => h.elim
  | _ :: _, [], _, _, _, h, _ => h.elim
  | _ :: _, _ :: _, [], _, _, h, _ => h.elim
theorem upd0_below {W W' : World} (h : Upd0 W W') : Below W.heap.size W W' := ⟨h.os, h.tape, h.output, h.size, fun k hk => h.keep k hk (fun h => h)⟩
theorem law_post (hl : laidOutB P = true) {f : Func} {s : ChangeSpec} {tb : TypeId} (hr : f.resultTypes = #[tb]) (htb : P.underlying tb = some .bool) (hv : s.vars = [])
    (hts : f.params.toList.all (fun t => P.readableRec t && decide (t < P.types.size)) = true)
    {W W' : World} {args : Array Value} {ds gs : List (DataW H)} {before : List MemPlace}
    (hfn : ∀ p, DataW.TrodAll enc P W 0 (fun _ => true) true f.params.toList args.toList ds p → s.fn H ds = { results := [.lit (.bool true)], args := ds })
    (hW : DataW.Whole enc P f.params.toList s.vars false W args.toList ds gs before) (hU : Upd0 W W') :
    s.post enc P f false true false false W args (.bool true) W' := by
  have hlt := hW.lt
  have hW' := hW
  obtain ⟨p, q, hA, hV, rfl, hfz, hnd⟩ := hW
  rw [hv] at hV
  obtain ⟨rfl, rfl⟩ := trodVars_none hV
  have hB := upd0_below hU
  have hf := hfn p hA
  refine ⟨ds, [], _, [], p, [], hW', ?_, ?_, ?_, ?_, fun h => by cases h⟩
  · rw [List.append_nil, hf, hr]
    exact trodAll_mk1 (shut_bool htb true)
  · rw [List.append_nil, hf]
    exact trodAll_carry hl hB _ _ _ _ hts hA (fun x hx => hlt x (by simp [hx]))
  · rw [List.append_nil, hf, hv]
    rfl
  · exact hB.frame _
end
theorem Tryown : ownKnob Try.prog.godebug = none := by kernel_rfl
theorem TrylaidOut : laidOutB Try.prog = true := by kernel_rfl
end Go.Proofs.Ytijmbpokglohbaa
