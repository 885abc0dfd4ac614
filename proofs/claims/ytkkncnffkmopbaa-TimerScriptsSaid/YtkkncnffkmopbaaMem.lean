/-
  Worlds: which blocks a call may have changed; slices that are owned; append, clear and loads as laws of a walk.
-/
import Derived.Test.YtkkncnffkmopbaaSer
import Derived.WalkKit
import Derived.Lib.Hide
import Derived.WalkSpells
import Derived.WalkLawsBesides
namespace Go.Proofs.Ytkkncnffkmopbaa
open Go.RowKit
set_option linter.unusedSimpArgs false
set_option linter.unusedVariables false

/-- outside the blocks of S the second world holds what the first one held -/
structure Upd (S : Nat → Prop) (w w' : World) : Prop where
  os : w'.os = w.os
  tape : w'.tape = w.tape
  output : w'.output = w.output
  size : w.heap.size ≤ w'.heap.size
  keep : ∀ b, b < w.heap.size → ¬ S b → w'.heap[b]? = w.heap[b]?
/-- nothing that was there has changed -/
abbrev Upd0 (w w' : World) : Prop := Upd (fun _ => False) w w'

section
variable {S S' : Nat → Prop} {a b w w' w'' : World}
theorem Upd.refl (S : Nat → Prop) (w : World) : Upd S w w := ⟨rfl, rfl, rfl, Nat.le_refl _, fun _ _ _ => rfl⟩
theorem Upd.trans (h : Upd S w w') (k : Upd S' w' w'') (hs : ∀ n, n < w.heap.size → S' n → S n) : Upd S w w'' :=
  ⟨k.os.trans h.os, k.tape.trans h.tape, k.output.trans h.output, Nat.le_trans h.size k.size, fun n hn hns =>
    (k.keep n (Nat.lt_of_lt_of_le hn h.size) (fun h' => hns (hs n hn h'))).trans (h.keep n hn hns)⟩
theorem Upd.mono (h : Upd S w w') (hs : ∀ n, n < w.heap.size → S n → S' n) : Upd S' w w' :=
  ⟨h.os, h.tape, h.output, h.size, fun n hn hns => h.keep n hn (fun h' => hns (hs n hn h'))⟩
theorem Upd.drew (h : Upd S a w) : Upd S a w.drew := ⟨h.os, h.tape, h.output, h.size, h.keep⟩
theorem Upd.drewN (h : Upd S a w) (n : Nat) : Upd S a (w.drewN n) := ⟨h.os, h.tape, h.output, h.size, h.keep⟩
theorem Upd.alloc (h : Upd S a w) (o : Obj) : Upd S a (w.alloc o) :=
  ⟨h.os, h.tape, h.output, by have := h.size; simp; omega, fun n hn hns => (Below.heap_alloc w o n (Nat.lt_of_lt_of_le hn h.size)).trans (h.keep n hn hns)⟩
theorem Upd.setCell (h : Upd S a w) {p : Addr} (hp : p.block < a.heap.size → S p.block) (v : Value) : Upd S a (w.setCell p v) :=
  ⟨h.os, h.tape, h.output, by have := h.size; simpa using this, fun n hn hns => by
    have hne : n ≠ p.block := by rintro rfl; exact hns (hp hn)
    rw [Below.heap_setCell _ _ _ _ hne]; exact h.keep n hn hns⟩
theorem Upd.grown (h : Upd S a w) {row : Option Nat} (hg : w.grownBy w' row) (hr : ∀ k, row = some k → k < a.heap.size → S k) : Upd S a w' :=
  ⟨hg.os.trans h.os, hg.tape.trans h.tape, hg.output.trans h.output, Nat.le_trans h.size hg.size, fun n hn hns => by
    rw [hg.block n (Nat.lt_of_lt_of_le hn h.size) (fun e => hns (hr n e.symm hn))]; exact h.keep n hn hns⟩
theorem Upd.setRow (h : Upd S a w) {g : Nat} (hg : g < a.heap.size → S g) (c : Array Value) : Upd S a (w.setRow g c) :=
  ⟨h.os, h.tape, h.output, by have := h.size; simpa [World.setRow] using this, fun n hn hns => by
    have hne : n ≠ g := by rintro rfl; exact hns (hg hn)
    rw [setRow_other w g n c hne]; exact h.keep n hn hns⟩
theorem Upd.block (h : Upd S w w') {n : Nat} {o : Obj} (hn : ¬ S n) (ho : w.heap[n]? = some o) : w'.heap[n]? = some o := by
  rw [h.keep n (Array.getElem?_eq_some_iff.1 ho).1 hn]; exact ho
theorem Upd.cell (h : Upd S w w') {p : Addr} {v : Value} (hn : ¬ S p.block) (ho : w.cell? p = some v) : w'.cell? p = some v := by
  rw [World.cell?_of_block (w := w) (h.keep p.block (World.block_lt_of_cell? w p ho) hn)]; exact ho
theorem Upd.cellEq (h : Upd S w w') {p : Addr} (hn : ¬ S p.block) (hp : p.block < w.heap.size) : w'.cell? p = w.cell? p :=
  World.cell?_of_block (w := w) (h.keep p.block hp hn)
theorem Upd.frz (h : Upd S w w') {p : Addr} (hn : ¬ S p.block) (hp : p.block < w.heap.size) : w'.frozen? p = w.frozen? p :=
  World.frozen?_of_block (w := w) (h.keep p.block hp hn)
theorem Upd.below (h : Upd S w w') {B : Nat} (hB : B ≤ w.heap.size) (hS : ∀ n, S n → B ≤ n) : Below B w w' :=
  ⟨h.os, h.tape, h.output, h.size, fun n hn => h.keep n (Nat.lt_of_lt_of_le hn hB) (fun h' => by have := hS n h'; omega)⟩
theorem Upd.ext (h : Upd0 w w') : Ext w w' := ⟨h.size, fun n hn => h.keep n hn (fun h => h)⟩
theorem Ext.alloc (h : Ext a w) (o : Obj) : Ext a (w.alloc o) := ⟨by have := h.1; simp; omega, fun n hn => (Below.heap_alloc w o n (Nat.lt_of_lt_of_le hn h.1)).trans (h.2 n hn)⟩
theorem Ext.drew (h : Ext a w) : Ext a w.drew := h
theorem Ext.drewN (h : Ext a w) (n : Nat) : Ext a (w.drewN n) := h
theorem Ext.lt (h : Ext a w) {n : Nat} (hn : n < a.heap.size) : n < w.heap.size := Nat.lt_of_lt_of_le hn h.1
end

theorem Upd0.tr {w w' w'' : World} (h : Upd0 w w') (k : Upd0 w' w'') : Upd0 w w'' := Upd.trans h k (fun _ _ h => h)
theorem Upd0.of_below {w w' : World} (h : Below w.heap.size w w') : Upd0 w w' := ⟨h.os, h.tape, h.output, h.size, fun b hb _ => h.block b hb⟩
/-- what a walk takes of a call that left all that was there -/
theorem Upd.rules {w w' : World} (h : Upd0 w w') : (∀ b o, b < w.heap.size → w'.cell? ⟨b, o, none⟩ = w.cell? ⟨b, o, none⟩) ∧ (∀ b o, b < w.heap.size → w'.frozen? ⟨b, o, none⟩ = w.frozen? ⟨b, o, none⟩) ∧ w.heap.size ≤ w'.heap.size :=
  ⟨fun b o hb => h.cellEq (fun h => h) hb, fun b o hb => h.frz (fun h => h) hb, h.size⟩
/-! the cells of a block that is known whole -/
theorem blk_lt {w : World} {b : Nat} {o : Obj} (h : w.heap[b]? = some o) : b < w.heap.size := (Array.getElem?_eq_some_iff.1 h).1
theorem blk_cell {w : World} {b : Nat} {c : Array Value} {t : TypeId} {f : Nat × Nat} (h : w.heap[b]? = some (.cells c t f)) (i : Nat) : w.cell? ⟨b, i, none⟩ = c[i]? := cell_of_row w b i c t f h
theorem blk_frz {w : World} {b : Nat} {c : Array Value} {t : TypeId} (h : w.heap[b]? = some (.cells c t (0, 0))) (i : Nat) : w.frozen? ⟨b, i, none⟩ = false := by simp [World.frozen?, h]
theorem blk_set {w : World} {b : Nat} {c : Array Value} {t : TypeId} {f : Nat × Nat} (h : w.heap[b]? = some (.cells c t f)) (i : Nat) (v : Value) : (w.setCell ⟨b, i, none⟩ v).heap[b]? = some (.cells (c.setIfInBounds i v) t f) := by
  simp [World.setCell, Array.getElem?_modify, h]
theorem blk_set_other {w : World} {b n : Nat} (h : n ≠ b) (i : Nat) (v : Value) : (w.setCell ⟨b, i, none⟩ v).heap[n]? = w.heap[n]? := Below.heap_setCell w _ v n h
theorem blk_alloc {w : World} {b : Nat} {o o' : Obj} (h : w.heap[b]? = some o) : (w.alloc o').heap[b]? = some o := by rw [Below.heap_alloc w o' b (blk_lt h)]; exact h

theorem alloc_last (w : World) (o : Obj) (n : Nat) (h : n = w.heap.size) : (w.alloc o).heap[n]? = some o := by subst h; exact heap_alloc_new w o

/-! slices that are owned -/
theorem ownsRow_ext {w w' : World} {B : Nat} {e : TypeId} {s : Nat} {v : Value} {n : Nat} {xs : List Value} (h : w.ownsRow B e s v n xs) (k : Ext w w') : w'.ownsRow B e s v n xs := by
  refine ⟨h.1, ?_⟩
  rcases h.2 with h | ⟨g, cap, cur, rfl, hb, hg, r⟩
  · exact .inl h
  · exact .inr ⟨g, cap, cur, rfl, hb, ext_block k hg, r⟩
theorem ownsRow_upd {S : Nat → Prop} {w w' : World} {B : Nat} {e : TypeId} {s : Nat} {v : Value} {n : Nat} {xs : List Value} (h : w.ownsRow B e s v n xs) (k : Upd S w w') (hS : ∀ g, v.ownBlock = some g → ¬ S g) : w'.ownsRow B e s v n xs := by
  refine ⟨h.1, ?_⟩
  rcases h.2 with h | ⟨g, cap, cur, rfl, hb, hg, r⟩
  · exact .inl h
  · exact .inr ⟨g, cap, cur, rfl, hb, k.block (hS g rfl) hg, r⟩
theorem ownsRow_lt {w : World} {B : Nat} {e : TypeId} {s : Nat} {v : Value} {n : Nat} {xs : List Value} (h : w.ownsRow B e s v n xs) {g : Nat} (hg : v.ownBlock = some g) : g < w.heap.size := (h.lt g hg).2
theorem ownsRow_slice {w : World} {B : Nat} {e : TypeId} {s : Nat} {v : Value} {n : Nat} {xs : List Value} (h : w.ownsRow B e s v n xs) : ∃ ao cap, v = .slice ao n cap := by
  rcases h.2 with ⟨rfl, rfl⟩ | ⟨g, cap, cur, rfl, _⟩ <;> exact ⟨_, _, rfl⟩
theorem ownsRow_some {w : World} {B : Nat} {e : TypeId} {s : Nat} {ao : Option Addr} {n cap : Nat} {xs : List Value} (h : w.ownsRow B e s (.slice ao n cap) n xs) (hn : 0 < n) : ∃ g, ao = some ⟨g, 0, none⟩ := by
  rcases h.2 with ⟨h, rfl⟩ | ⟨g, cap, cur, hv, _⟩
  · omega
  · injection hv with h1; exact ⟨g, h1⟩
theorem ownsRow_blk {w : World} {B : Nat} {e : TypeId} {s g n cap : Nat} {xs : List Value} (h : w.ownsRow B e s (.slice (some ⟨g, 0, none⟩) n cap) n xs) : ∃ cur : Array Value, w.heap[g]? = some (.cells cur e (0, 0)) ∧ n ≤ cap ∧ cap ≤ maxLen ∧ cur.size = cap * s ∧ cur.toList.take (n * s) = xs := by
  rcases h.2 with ⟨h, _⟩ | ⟨g', cap', cur, hv, _, r1, r2, r3, r4, r5⟩
  · cases h
  · cases hv
    exact ⟨cur, r1, r2, r3, r4, r5⟩
theorem ownsRow_mk {w : World} {e : TypeId} {s g n cap : Nat} {cur : Array Value} {xs : List Value} (hg : w.heap[g]? = some (.cells cur e (0, 0))) (hn : n ≤ cap) (hm : cap ≤ maxLen) (hs : cur.size = cap * s) (ht : cur.toList.take (n * s) = xs) : w.ownsRow 0 e s (.slice (some ⟨g, 0, none⟩) n cap) n xs := by
  refine ⟨?_, .inr ⟨g, cap, cur, rfl, Nat.zero_le _, hg, hn, hm, hs, ht⟩⟩
  rw [← ht, List.length_take, Array.length_toList, hs]
  exact Nat.min_eq_left (Nat.mul_le_mul_right s hn)
theorem ownsRow_nil0 {w : World} {B : Nat} {e : TypeId} {s : Nat} {v : Value} {xs : List Value} (h : w.ownsRow B e s v 0 xs) : xs = [] := List.eq_nil_of_length_eq_zero (by simpa using h.1)
theorem ownsRow_cell {w : World} {B : Nat} {e : TypeId} {s : Nat} {v : Value} {n g : Nat} {xs : List Value} (h : w.ownsRow B e s v n xs) (hg : v.ownBlock = some g) {j : Nat} {u : Value} (hj : xs[j]? = some u) : w.cell? ⟨g, j, none⟩ = some u := by
  have := h.cells hg j u hj
  rwa [Addr.add_lit, Nat.zero_add] at this
theorem ownsRow_mono {w : World} {B B' : Nat} {e : TypeId} {s : Nat} {v : Value} {n : Nat} {xs : List Value} (h : w.ownsRow B e s v n xs) (hB : ∀ g, v.ownBlock = some g → B' ≤ g) : w.ownsRow B' e s v n xs := by
  refine ⟨h.1, ?_⟩
  rcases h.2 with h | ⟨g, cap, cur, rfl, hb, hg, r⟩
  · exact .inl h
  · exact .inr ⟨g, cap, cur, rfl, hB g rfl, hg, r⟩
/-- the new value's block is the old one's, or new -/
def Fresh (w : World) (v v' : Value) : Prop := ∀ k, v'.ownBlock = some k → v.ownBlock = some k ∨ w.heap.size ≤ k
theorem Fresh.refl (w : World) (v : Value) : Fresh w v v := fun _ h => .inl h
theorem Fresh.of_new {w : World} {v v' : Value} (h : ∀ k, v'.ownBlock = some k → w.heap.size ≤ k) : Fresh w v v' := fun k hk => .inr (h k hk)
theorem Fresh.trans {w w' : World} {v v' v'' : Value} (h : Fresh w v v') (k : Fresh w' v' v'') (hs : w.heap.size ≤ w'.heap.size) : Fresh w v v'' := fun n hn => by
  rcases k n hn with h1 | h1
  · exact h n h1
  · exact .inr (by omega)

theorem flat_get {α : Type} {f : α → List Value} {s : Nat} (hf : ∀ x, (f x).length = s) : ∀ (l : List α) (i j : Nat) (x : α), l[i]? = some x → j < s → (l.flatMap f)[i * s + j]? = (f x)[j]?
  | [], i, j, x, h, _ => by simp at h
  | y :: l, 0, j, x, h, hj => by
    simp only [List.getElem?_cons_zero, Option.some.injEq] at h
    subst h
    rw [List.flatMap_cons, Nat.zero_mul, Nat.zero_add, List.getElem?_append_left (by rw [hf]; exact hj)]
  | y :: l, i + 1, j, x, h, hj => by
    rw [List.flatMap_cons, List.getElem?_append_right (by rw [hf, Nat.add_mul]; omega), hf]
    have : (i + 1) * s + j - s = i * s + j := by rw [Nat.add_mul]; omega
    rw [this]
    exact flat_get hf l i j x (by simpa using h) hj
theorem flat_len {α : Type} {f : α → List Value} {s : Nat} (hf : ∀ x, (f x).length = s) (l : List α) : (l.flatMap f).length = l.length * s := by
  induction l with
  | nil => simp
  | cons x l ih => rw [List.flatMap_cons, List.length_append, hf, ih, List.length_cons, Nat.add_mul]; omega
theorem flat_take {α : Type} {f : α → List Value} {s : Nat} (hf : ∀ x, (f x).length = s) : ∀ (l : List α) (i : Nat), (l.flatMap f).take (i * s) = (l.take i).flatMap f
  | [], i => by simp
  | x :: l, 0 => by simp
  | x :: l, i + 1 => by
    rw [List.flatMap_cons, List.take_succ_cons, List.flatMap_cons, List.take_append, hf]
    have : (i + 1) * s - s = i * s := by rw [Nat.add_mul]; omega
    rw [this, flat_take hf l i, List.take_of_length_le (by rw [hf, Nat.add_mul]; omega)]
theorem flat_drop {α : Type} {f : α → List Value} {s : Nat} (hf : ∀ x, (f x).length = s) : ∀ (l : List α) (i : Nat), (l.flatMap f).drop (i * s) = (l.drop i).flatMap f
  | [], i => by simp
  | x :: l, 0 => by simp
  | x :: l, i + 1 => by
    rw [List.flatMap_cons, List.drop_succ_cons, List.drop_append, hf]
    have : (i + 1) * s - s = i * s := by rw [Nat.add_mul]; omega
    rw [this, flat_drop hf l i, List.drop_of_length_le (by rw [hf, Nat.add_mul]; omega), List.nil_append]
/-- a cell of an element of an owned slice -/
theorem elem_cell {α : Type} {f : α → List Value} {s : Nat} (hf : ∀ x, (f x).length = s) {w : World} {B : Nat} {e : TypeId} {l : List α} {n g cap : Nat} (h : w.ownsRow B e s (.slice (some ⟨g, 0, none⟩) n cap) n (l.flatMap f)) {i : Nat} {x : α} (hi : l[i]? = some x)
    (j : Nat) (u : Value) (hj : j < s) (hu : (f x)[j]? = some u) : w.cell? ⟨g, i * s + j, none⟩ = some u :=
  ownsRow_cell h rfl (by rw [flat_get hf l i j x hi hj]; exact hu)
theorem ownsRow_set1 {w : World} {e : TypeId} {s g n cap : Nat} {xs : List Value} (h : w.ownsRow 0 e s (.slice (some ⟨g, 0, none⟩) n cap) n xs) (j : Nat) (u : Value) : (w.setCell ⟨g, j, none⟩ u).ownsRow 0 e s (.slice (some ⟨g, 0, none⟩) n cap) n (xs.set j u) := by
  obtain ⟨cur, r1, r2, r3, r4, r5⟩ := ownsRow_blk h
  refine ownsRow_mk (blk_set r1 j u) r2 r3 (by simpa using r4) ?_
  rw [Array.toList_setIfInBounds, List.take_set, r5]
theorem flat_set {α : Type} {f : α → List Value} {s : Nat} (hf : ∀ x, (f x).length = s) (x : α) : ∀ (l : List α) (i : Nat), i < l.length → (l.set i x).flatMap f = (l.flatMap f).take (i * s) ++ f x ++ (l.flatMap f).drop ((i + 1) * s)
  | [], i, h => by simp at h
  | y :: l, i, h => by
    rw [flat_take hf, flat_drop hf, List.set_eq_take_append_cons_drop, if_pos h]
    simp
section
variable {P : Program}
/-- append to an owned slice, of cells that lie in a block: one goal, what follows -/
theorem run_append_blk {w W : World} (hext : Ext w W) (t ty e : TypeId) (i : TypeInfo) (z : Value) (size bytes : Nat) (ht : P.underlying t = some (.slice e)) (hi : P.info? e = some i) (hz : i.zero = some z)
    (hsize : i.size = size) (hby : i.bytes = bytes) (hzs : z.cells.size = size) (hsz : 0 < size)
    (v : Value) (n : Nat) (xs : List Value) (hown : w.ownsRow 0 e size v n xs)
    (ad : Addr) (m c : Nat) (news : List Value) (hl : news.length = m * size) (hnews : ∀ j u, news[j]? = some u → W.cell? (ad.add j) = some u) (h1 : ∀ u ∈ news, u.oneCell' = true)
    (hbytes : (n + m) * bytes ≤ 140737488355328) (h63 : n + m ≤ 140737488355328) :
    ∃ ao' cap' W', (Builtin.append_ #[t, t] ty #[v, .slice (some ad) m c]).run P W = .ok (.slice ao' (n + m) cap') W' ∧ W'.ownsRow 0 e size (.slice ao' (n + m) cap') (n + m) (xs ++ news) ∧ Upd (fun k => v.ownBlock = some k) W W' ∧
      Fresh W v (.slice ao' (n + m) cap') ∧ (ao' = none → v = .slice none 0 0 ∧ m = 0) := by
  obtain ⟨v', W', hr, ho, hg, hnil⟩ := run_append_own (P := P) W 0 t ty e i z size bytes ht hi hz hsize hby hzs hsz v n xs (ownsRow_ext hown hext) ad m c news hl hnews h1 (by unfold maxLen; omega) hbytes (Nat.zero_le _)
  have hfresh : Fresh W v v' := fun k hk => by
    have := ho.lt k hk
    rcases Nat.lt_or_ge k W.heap.size with h | h
    · by_cases hv : v.ownBlock = some k
      · exact .inl hv
      · -- the new row in a block that was there and is not v's own: then it was left as it was, but run_append_own's cases say otherwise
        exfalso
        rcases hown.2 with ⟨rfl, rfl⟩ | ⟨g, cap, cur, rfl, _, hgg, hnc, _, hcs, _⟩
        · have hx : xs = [] := ownsRow_nil0 hown
          by_cases hm : m = 0
          · have : v' = .slice none 0 0 := hnil.2 ⟨rfl, hm⟩
            subst this; simp [Value.ownBlock] at hk
          · have hrn := run_append_nil (P := P) W t ty e i z ht hi hz ad m c news (by rw [hsize]; exact hl) hnews (by omega) (by omega) (by rw [hby]; have hb := hbytes; rw [Nat.zero_add] at hb; omega)
            rw [hrn] at hr
            injection hr with e1 e2
            subst e1
            simp [Value.ownBlock] at hk
            omega
        · by_cases hroom : n + m ≤ cap
          · have hfit : n * size + news.length ≤ cur.size := by rw [hl, hcs, ← Nat.add_mul]; exact Nat.mul_le_mul_right _ hroom
            have hrr := run_append_room (P := P) W t ty e i ht hi g n cap cur (ext_block hext hgg) ad m c news (by rw [hsize]; exact hl) hnews h1 hroom (by rw [hsize]; exact hfit)
            rw [hrr] at hr
            injection hr with e1 e2
            subst e1
            exact hv hk
          · have holds : ∀ j u, xs[j]? = some u → W.cell? ((⟨g, 0, none⟩ : Addr).add j) = some u := (ownsRow_ext hown hext).cells (g := g) rfl
            have hrg := run_append_grow (P := P) W t ty e i z ht hi hz ⟨g, 0, none⟩ n cap xs (by rw [hsize]; exact hown.1) holds ad m c news (by rw [hsize]; exact hl) hnews (by omega) (by omega) (by rw [hby]; exact growslice_fits (by omega) hbytes)
            rw [hrg] at hr
            injection hr with e1 e2
            subst e1
            simp [Value.ownBlock] at hk
            omega
    · exact .inr h
  obtain ⟨ao', cap', rfl⟩ := ownsRow_slice ho
  refine ⟨ao', cap', W', hr, ho, ⟨hg.os, hg.tape, hg.output, hg.size, fun k hk hne => hg.block k hk (fun e => hne e.symm)⟩, hfresh, fun hn => ?_⟩
  subst hn
  rcases ho.2 with ⟨h1, h2⟩ | ⟨g, cap, cur, hv, _⟩
  · exact hnil.1 h1
  · injection hv with h1; cases h1
theorem wpList_app {w W : World} (hext : Ext w W) {ops : Array Oper} {rest : List Oper} {o : Oper} {a : Act} {Q : Exit → Act → World → Prop} (hgd : o.guard = none) (s x : Operand) (t : TypeId)
    (ho : o.op = .call { callee := .builtin .append, args := #[s, x], argTypes := #[t, t] })
    (e : TypeId) (i : TypeInfo) (z : Value) (size bytes : Nat) (ht : P.underlying t = some (.slice e)) (hi : P.info? e = some i) (hz : i.zero = some z)
    (hsize : i.size = size) (hby : i.bytes = bytes) (hzs : z.cells.size = size) (hsz : 0 < size)
    (v : Value) (n : Nat) (xs : List Value) (hown : w.ownsRow 0 e size v n xs) (hs : a.eval s = v)
    (g m c : Nat) (news : List Value) (hx : a.eval x = .slice (some ⟨g, 0, none⟩) m c) (hl : news.length = m * size) (hnews : W.heap[g]? = some (.cells news.toArray e (0, 0))) (h1 : news.all (·.oneCell') = true)
    (hbytes : (n + m) * bytes ≤ 140737488355328) (h63 : n + m ≤ 140737488355328)
    (h : ∀ ao' cap' W', W'.ownsRow 0 e size (.slice ao' (n + m) cap') (n + m) (xs ++ news) → Upd (fun k => v.ownBlock = some k) W W' → Fresh W v (.slice ao' (n + m) cap') → wpList P ops Q rest (a.put o.dst (.slice ao' (n + m) cap')) W') : wpList P ops Q (o :: rest) a W :=
  wpList_plain hgd fun _ hK => by
    obtain ⟨ao', cap', W', hr, h2, h3, h4, _⟩ := run_append_blk (P := P) hext t o.type e i z size bytes ht hi hz hsize hby hzs hsz v n xs hown ⟨g, 0, none⟩ m c news hl
      (fun j u hu => by rw [Addr.add_lit, Nat.zero_add, blk_cell hnews]; simpa using hu) (fun u hu => List.all_eq_true.1 h1 u hu) hbytes h63
    unfold Oper.wp execOp
    simp only [ho, resolve, invoke, builtin, Sem.run_bind, Sem.run_pure, Result.andThen_ok, List.map_toArray, List.map_cons, List.map_nil, hs, hx, hr]
    exact hK _ _ (h ao' cap' W' h2 h3 h4)
/-- append where there is room, whatever lies behind the length -/
theorem wpList_app_room {W : World} {ops : Array Oper} {rest : List Oper} {o : Oper} {a : Act} {Q : Exit → Act → World → Prop} (hgd : o.guard = none) (s x : Operand) (t : TypeId)
    (ho : o.op = .call { callee := .builtin .append, args := #[s, x], argTypes := #[t, t] })
    (e : TypeId) (i : TypeInfo) (size : Nat) (ht : P.underlying t = some (.slice e)) (hi : P.info? e = some i) (hsize : i.size = size)
    (g n cap : Nat) (cur : Array Value) (hg : W.heap[g]? = some (.cells cur e (0, 0))) (hs : a.eval s = .slice (some ⟨g, 0, none⟩) n cap)
    (ad : Addr) (m c : Nat) (news : List Value) (hx : a.eval x = .slice (some ad) m c) (hl : news.length = m * size) (hnews : ∀ j u, news[j]? = some u → W.cell? (ad.add j) = some u) (h1 : ∀ u ∈ news, u.oneCell' = true)
    (hroom : n + m ≤ cap) (hfit : n * size + news.length ≤ cur.size)
    (h : wpList P ops Q rest (a.put o.dst (.slice (some ⟨g, 0, none⟩) (n + m) cap)) (W.setRow g (cur.toList.take (n * size) ++ news ++ cur.toList.drop (n * size + news.length)).toArray)) : wpList P ops Q (o :: rest) a W :=
  wpList_plain hgd fun _ hK => by
    subst hsize
    have hr := run_append_room (P := P) W t o.type e i ht hi g n cap cur hg ad m c news hl hnews h1 hroom hfit
    unfold Oper.wp execOp
    simp only [ho, resolve, invoke, builtin, Sem.run_bind, Sem.run_pure, Result.andThen_ok, List.map_toArray, List.map_cons, List.map_nil, hs, hx, hr]
    exact hK _ _ h
theorem run_clear_row {W : World} (t ty e : TypeId) (i : TypeInfo) (z : Value) (size : Nat) (ht : P.underlying t = some (.slice e)) (hi : P.info? e = some i) (hz : i.zero = some z) (hzs : z.cells.size = size) (h1 : ∀ u ∈ z.cells.toList, u.oneCell' = true)
    (g off n c : Nat) (cur : Array Value) (hg : W.heap[g]? = some (.cells cur e (0, 0))) (ad : Addr) (had : 0 < n → ad = ⟨g, off, none⟩) (hfit : off + n * size ≤ cur.size) :
    ∃ zs : List Value, zs.length = n * size ∧ (Builtin.clear_ #[t] ty #[.slice (some ad) n c]).run P W = .ok (.tuple #[]) (W.setRow g (cur.toList.take off ++ zs ++ cur.toList.drop (off + n * size)).toArray) := by
  cases n with
  | zero =>
    refine ⟨[], by simp, ?_⟩
    have e1 : (cur.toList.take off ++ [] ++ cur.toList.drop (off + 0 * size)).toArray = cur := by simp
    rw [e1, setRow_self W g cur e (0, 0) hg]
    simp [Builtin.clear_, run_underlying ht]
  | succ n =>
    have hlen : (Builtin.zeroCells z.cells (n + 1)).toList.length = (n + 1) * size := by simp [Builtin.zeroCells, hzs]
    refine ⟨(Builtin.zeroCells z.cells (n + 1)).toList, hlen, ?_⟩
    have hst := run_storeCells_at P g off e (Builtin.zeroCells z.cells (n + 1)).toList 0 cur W hg (by rw [hlen]; omega) (by
      intro u hu
      simp only [Builtin.zeroCells, Array.toList_map, List.mem_map] at hu
      obtain ⟨j, hj, rfl⟩ := hu
      have hpos : 0 < z.cells.size := by
        rcases Nat.eq_zero_or_pos z.cells.size with h | h
        · rw [h] at hj; simp at hj
        · exact h
      have : j % z.cells.size < z.cells.size := Nat.mod_lt _ hpos
      rw [getElem!_pos z.cells _ this]
      exact h1 _ (by simp))
    rw [hlen, Nat.add_zero] at hst
    rw [had (by omega)]
    simp [Builtin.clear_, run_underlying ht, zeroValue, typeInfo, hi, hz, hst]
theorem wpList_clear {W : World} {ops : Array Oper} {rest : List Oper} {o : Oper} {a : Act} {Q : Exit → Act → World → Prop} (hgd : o.guard = none) (x : Operand) (t : TypeId)
    (ho : o.op = .call { callee := .builtin .clear, args := #[x], argTypes := #[t] })
    (e : TypeId) (i : TypeInfo) (z : Value) (size : Nat) (ht : P.underlying t = some (.slice e)) (hi : P.info? e = some i) (hz : i.zero = some z) (hzs : z.cells.size = size) (h1 : z.cells.toList.all (·.oneCell') = true)
    (g off n c : Nat) (cur : Array Value) (hg : W.heap[g]? = some (.cells cur e (0, 0))) (ad : Addr) (hx : a.eval x = .slice (some ad) n c) (had : 0 < n → ad = ⟨g, off, none⟩) (hfit : off + n * size ≤ cur.size)
    (h : ∀ zs : List Value, zs.length = n * size → wpList P ops Q rest (a.put o.dst (.tuple #[])) (W.setRow g (cur.toList.take off ++ zs ++ cur.toList.drop (off + n * size)).toArray)) : wpList P ops Q (o :: rest) a W :=
  wpList_plain hgd fun _ hK => by
    obtain ⟨zs, hzl, hr⟩ := run_clear_row (P := P) (W := W) t o.type e i z size ht hi hz hzs (fun u hu => List.all_eq_true.1 h1 u hu) g off n c cur hg ad had hfit
    unfold Oper.wp execOp
    simp only [ho, resolve, invoke, builtin, Sem.run_bind, Sem.run_pure, Result.andThen_ok, List.map_toArray, List.map_cons, List.map_nil, hx, hr]
    exact hK _ _ (h zs hzl)
end
end Go.Proofs.Ytkkncnffkmopbaa
