/-
  Rooms, plainly: a table that is filled task by task, client by client.
-/
import Derived.Test.YtebnilkcpklnmaaCoP
namespace Go.Proofs.Ytebnilkcpklnmaa
set_option linter.unusedSimpArgs false
set_option linter.unusedVariables false
def rowC (k : Nat) : List Cl := (List.range k).map fun (j : Nat) => ⟨0, (j : Int), []⟩
def rowT (most i : Nat) : Tk := ⟨i + 1, [], (i : Int) + 1, rowC most⟩
def rows (most i : Nat) : List Tk := (List.range i).map (rowT most)
/-- i tasks are full, the next one has k clients -/
def rst (room most i k : Nat) : Tb := if k = 0 then ⟨room, most, i, rows most i⟩ else ⟨room, most, i + 1, rows most i ++ [rowT k i]⟩
theorem rowC_len (k : Nat) : (rowC k).length = k := by simp [rowC]
theorem rowC_succ (k : Nat) : rowC (k + 1) = rowC k ++ [⟨0, k, []⟩] := by simp [rowC, List.range_succ]
theorem rows_len (m i : Nat) : (rows m i).length = i := by simp [rows]
theorem rows_succ (m i : Nat) : rows m (i + 1) = rows m i ++ [rowT m i] := by simp [rows, List.range_succ]
theorem rst_next (room most i : Nat) (h : 0 < most) : rst room most i most = rst room most (i + 1) 0 := by
  unfold rst
  rw [if_neg (by omega), if_pos rfl, rows_succ]
theorem look_rows {m i : Nat} {ty : Int} (h : ∀ j : Nat, j < i → (j : Int) + 1 ≠ ty) : lookK [] ty (rows m i) = none := by
  have : ∀ L : List Tk, (∀ k ∈ L, hitK [] ty k = false) → lookK [] ty L = none := by
    intro L
    induction L with
    | nil => intro _; rfl
    | cons a l ih =>
      intro hl
      rw [lookK, hl a (List.mem_cons_self ..), ih (fun k hk => hl k (List.mem_cons_of_mem _ hk))]
      rfl
  apply this
  intro k hk
  obtain ⟨j, hj, rfl⟩ := List.mem_map.1 hk
  have := h j (List.mem_range.1 hj)
  simp [hitK, rowT, this]
theorem look_app {x : Bs} {ty : Int} {k : Tk} (hk : hitK x ty k = true) : ∀ {L : List Tk}, lookK x ty L = none → lookK x ty (L ++ [k]) = some (L.length, k)
  | [], _ => by simp [lookK, hk]
  | a :: l, h => by
    rw [lookK] at h
    cases ha : hitK x ty a with
    | true => rw [ha] at h; cases h
    | false =>
      rw [ha] at h
      simp only [Bool.false_eq_true, if_false, Option.map_eq_none_iff] at h
      rw [List.cons_append, lookK, ha]
      simp only [Bool.false_eq_true, if_false, look_app hk h]
      rfl
theorem fold0 : fold [] = [] := rfl
theorem okQ0 (c : Cl) (h : c.nm = []) : okQ [] c = true := by unfold okQ; rw [h]; rfl
theorem ask_rst {room most i k : Nat} (hi : i < room) (hk : k < most) : ask (rst room most i k) [] ((i : Int) + 1) ⟨0, k, []⟩ = (((i : Int) + 1, decide (k = 0), 0), rst room most i (k + 1)) := by
  rw [ask, okQ0 _ rfl, fold0]
  simp only [if_true]
  by_cases h0 : k = 0
  · subst h0
    have h1 : rst room most i 0 = ⟨room, most, i, rows most i⟩ := by rw [rst, if_pos rfl]
    rw [h1, look_rows (fun j hj => by omega)]
    simp only [rows_len]
    rw [if_neg (by omega), rst, if_neg (by omega)]
    simp [rowT, rowC_succ, rowC]
  · have h1 : rst room most i k = ⟨room, most, i + 1, rows most i ++ [rowT k i]⟩ := by rw [rst, if_neg h0]
    have hl := look_app (x := []) (ty := (i : Int) + 1) (k := rowT k i) (by simp [hitK, rowT]) (look_rows (m := most) (i := i) (ty := (i : Int) + 1) (fun j hj => by omega))
    rw [h1]
    simp only [hl]
    rw [if_neg (by simp [rowT, rowC_len]; omega), rst, if_neg (by omega), List.set_append_right _ _ (Nat.le_refl _), Nat.sub_self]
    simp [rowT, Tk.add, rowC_succ, h0]
theorem rows_get {m i j : Nat} (h : j < i) : (rows m i)[j]? = some (rowT m j) := by simp [rows, h]
theorem rows_cons {m i : Nat} : rows m (i + 1) = rowT m 0 :: (List.range i).map (fun j => rowT m (j + 1)) := by
  simp [rows, List.range_succ_eq_map, Function.comp_def]
theorem look_first {m i : Nat} (hi : 0 < i) : lookK [] 1 (rows m i) = some (0, rowT m 0) := by
  obtain ⟨i, rfl⟩ : ∃ j, i = j + 1 := ⟨i - 1, by omega⟩
  rw [rows_cons, lookK]
  simp [hitK, rowT]
theorem ask_full1 {room most : Nat} (h : 0 < room) : ask ⟨room, most, room, rows most room⟩ [] 1 ⟨0, 0, []⟩ = ((0, false, 4), ⟨room, most, room, rows most room⟩) := by
  rw [ask, okQ0 _ rfl, fold0]
  simp only [if_true, look_first h]
  rw [if_pos (by simp [rowT, rowC_len])]
theorem ask_full2 {room most : Nat} : ask ⟨room, most, room, rows most room⟩ [] ((room : Int) + 1) ⟨0, 0, []⟩ = ((0, false, 4), ⟨room, most, room, rows most room⟩) := by
  rw [ask, okQ0 _ rfl, fold0]
  simp only [if_true]
  rw [look_rows (fun j hj => by omega)]
  simp [rows_len]
def rowsD (most room : Nat) : List Tk := (rows most room).filter fun k => !isK 1 k
theorem done_rows {room most : Nat} (h : 0 < room) : doneC ⟨room, most, room, rows most room⟩ 1 = rowC most ∧ doneB ⟨room, most, room, rows most room⟩ 1 = true ∧ doneT ⟨room, most, room, rows most room⟩ 1 = ⟨room, most, room, rowsD most room⟩ ∧ (rowsD most room).length + 1 = room ∧ lookK [] ((room : Int) + 1) (rowsD most room) = none := by
  obtain ⟨i, rfl⟩ : ∃ j, room = j + 1 := ⟨room - 1, by omega⟩
  have hf : (rows most (i + 1)).find? (isK 1) = some (rowT most 0) := by
    rw [rows_cons, List.find?_cons]
    simp [isK, rowT]
  have hD : rowsD most (i + 1) = (List.range i).map (fun j => rowT most (j + 1)) := by
    unfold rowsD
    rw [rows_cons, List.filter_cons]
    rw [if_neg (by simp [isK, rowT]), List.filter_eq_self]
    intro a ha
    obtain ⟨j, hj, rfl⟩ := List.mem_map.1 ha
    have : isK 1 (rowT most (j + 1)) = false := decide_eq_false (by show ¬ ((j + 1 + 1 : Nat) : Int) = 1; omega)
    rw [this]; rfl
  refine ⟨?_, ?_, rfl, ?_, ?_⟩
  · simp only [doneC, hf]; rfl
  · simp only [doneB, hf]; rfl
  · rw [hD]; simp
  · have h0 : lookK [] (((i + 1 : Nat) : Int) + 1) (rows most (i + 1)) = none := look_rows (fun j hj => by omega)
    rw [rows_cons, lookK] at h0
    rw [hD]
    split at h0
    · cases h0
    · simpa using h0
theorem ask_last1 {room most : Nat} (h : 0 < room) : ask ⟨room, most, room, rowsD most room⟩ [] ((room : Int) + 1) ⟨0, 0, []⟩ = (((room : Int) + 1, true, 0), ⟨room, most, room + 1, rowsD most room ++ [⟨room + 1, [], (room : Int) + 1, [⟨0, 0, []⟩]⟩]⟩) := by
  obtain ⟨_, _, _, h1, h2⟩ := done_rows (most := most) h
  rw [ask, okQ0 _ rfl, fold0]
  simp only [if_true, h2]
  rw [if_neg (by omega)]
  rfl
end Go.Proofs.Ytebnilkcpklnmaa
