/-
  The document's cache in memory: what it holds; find, without.
-/
import Derived.Test.YtijmbpokglohbaaCaK
import Derived.Test.YtijmbpokglohbaaKa
namespace Go.Proofs.Ytijmbpokglohbaa
open Go.RowKit Go.Maps
set_option linter.unusedSimpArgs false
set_option linter.unusedVariables false
variable {B : Nat}
theorem info_re : (Try.prog.info? 112).map (fun i => (i.zero, i.size, i.bytes)) = some (some (.agg #[.string .empty, .int .i64 0, .int .i64 0, .slice none 0 0, .int .i64 0, .int .i64 0, .int .i64 0]), 7, 80) := by kernel_rfl
/-- an entry of the document's in memory -/
structure RE where
  e : CE
  ao : Option Addr
  cap : Nat
def RE.cells (m : RE) : List Value := [.string ⟨m.e.nm.toArray⟩, .int .i64 m.e.ty, .int .i64 m.e.tl, .slice m.ao m.e.dt.length m.cap, .int .i64 m.e.rk, .int .i64 m.e.en, .int .i64 m.e.us]
theorem re_len (m : RE) : m.cells.length = 7 := rfl
def res (M : List RE) : List Value := M.flatMap RE.cells
theorem res_oneC {M : List RE} {u : Value} (hu : u ∈ res M) : u.oneCell' = true := by
  obtain ⟨t, _, ht⟩ := List.mem_flatMap.1 hu
  simp only [RE.cells, List.mem_cons, List.not_mem_nil, or_false] at ht
  rcases ht with rfl | rfl | rfl | rfl | rfl | rfl | rfl <;> rfl
structure RcIs (B : Nat) (w : World) (t : Nat) (v : Value) (c : CS) (M : List RE) : Prop where
  blk : w.heap[t]? = some (.cells #[.int .i64 c.room, .int .i64 c.most, v, .int .i64 c.N] 58 (0, 0))
  row : w.ownsRow 0 112 7 v M.length (res M)
  abs : M.map (·.e) = c.L
  dat : ∀ m ∈ M, DR w m.ao m.e.dt
  lo : B ≤ t ∧ ∀ b, v.ownBlock = some b → B ≤ b
def RcT (B : Nat) (w : World) (t : Nat) (c : CS) : Prop := ∃ v M, RcIs B w t v c M
/-- the blocks that a cache of the document may lie in -/
def kindS : Option Obj → Bool
  | some (.cells _ t _) => decide (t = 58) || decide (t = 112)
  | _ => false
def UpdC (B : Nat) (w w' : World) : Prop := Upd (fun b => B ≤ b ∧ kindS w.heap[b]? = true) w w'
theorem UpdC.of0 {w w' : World} (h : Upd0 w w') : UpdC B w w' := h.mono (fun _ _ h => h.elim)
theorem UpdC.tr {w w' w'' : World} (h : UpdC B w w') (k : UpdC B w' w'') : UpdC B w w'' := updq_trans h k
theorem UpdC.fin {w0 w w' : World} (h : Upd0 w0 w) (k : UpdC w0.heap.size w w') : Upd0 w0 w' := Upd.trans h k fun n hn hs => by have := hs.1; omega
theorem kind_row7 {w : World} {g : Nat} {v : Value} {n : Nat} {xs : List Value} {e : TypeId} {s : Nat} (h : w.ownsRow 0 e s v n xs) (hg : v.ownBlock = some g) : ∃ cur, w.heap[g]? = some (.cells cur e (0, 0)) := by
  rcases h.2 with ⟨e1, _⟩ | ⟨g', cap, cur, e1, _, hb, _⟩
  · subst e1; cases hg
  · subst e1
    simp [Value.ownBlock] at hg
    subst hg
    exact ⟨cur, hb⟩
theorem RcIs.to {S : Nat → Prop} {w w' : World} {t : Nat} {v : Value} {c : CS} {M : List RE} (h : RcIs B w t v c M) (k : Upd S w w') (hS : ∀ b, S b → kindS w.heap[b]? = false) (hS2 : ∀ g cur fz, w.heap[g]? = some (.cells cur 9 fz) → ¬ S g) : RcIs B w' t v c M := by
  have hno : ∀ b, kindS w.heap[b]? = true → ¬ S b := fun b hb hs => by rw [hS b hs] at hb; cases hb
  refine ⟨k.block (hno t (by rw [h.blk]; rfl)) h.blk, ownsRow_upd h.row k fun g hg => hno g ?_, h.abs, fun m hm => (h.dat m hm).to k hS2, h.lo⟩
  obtain ⟨cur, hc⟩ := kind_row7 h.row hg
  rw [hc]; rfl
theorem RcIs.to0 {w w' : World} {t : Nat} {v : Value} {c : CS} {M : List RE} (h : RcIs B w t v c M) (k : Upd0 w w') : RcIs B w' t v c M := h.to k (fun _ h => h.elim) (fun _ _ _ _ h => h.elim)
theorem RcT.to0 {w w' : World} {t : Nat} {c : CS} (h : RcT B w t c) (k : Upd0 w w') : RcT B w' t c := by
  obtain ⟨v, M, h⟩ := h
  exact ⟨v, M, h.to0 k⟩
theorem kind_qs {o : Option Obj} (h : kindQ o = true) : kindS o = false := by
  cases o with
  | none => cases h
  | some o =>
    cases o <;> simp [kindQ, kindS] at h ⊢
    rcases h with h | h <;> subst h <;> decide
theorem kind_str {o : Option Obj} {cur : Array Value} {fz : Nat × Nat} (h : o = some (.cells cur 9 fz)) : kindQ o = false ∧ kindS o = false := by
  subst h
  exact ⟨by simp [kindQ], by simp [kindS]⟩
theorem RcT.toQ {w w' : World} {t : Nat} {c : CS} (h : RcT B w t c) (k : UpdQ B w w') : RcT B w' t c := by
  obtain ⟨v, M, h⟩ := h
  refine ⟨v, M, h.to k (fun b hb => kind_qs hb.2) fun g cur fz hg hs => ?_⟩
  have h1 := hs.2
  rw [(kind_str hg).1] at h1
  cases h1
theorem kind_sq {o : Option Obj} (h : kindS o = true) : kindQ o = false := by
  cases e : kindQ o
  · rfl
  · rw [kind_qs e] at h; cases h
theorem Ca.toC {w w' : World} {t : Nat} {c : CS} (h : Ca B w t c) (k : UpdC B w w') : Ca B w' t c := by
  obtain ⟨bm, M, h⟩ := h
  refine ⟨bm, M, h.to k (fun b hb => kind_sq hb.2) fun g cur fz hg hs => ?_⟩
  have h1 := hs.2
  rw [(kind_str hg).2] at h1
  cases h1
theorem RcIs.at {w : World} {t : Nat} {v : Value} {c : CS} {M : List RE} (h : RcIs B w t v c M) : w.cell? ⟨t, 0, none⟩ = some (.int .i64 c.room) ∧ w.cell? ⟨t, 1, none⟩ = some (.int .i64 c.most) ∧ w.cell? ⟨t, 2, none⟩ = some v ∧ w.cell? ⟨t, 3, none⟩ = some (.int .i64 c.N) := set4 h.blk
/-- an entry's cells -/
theorem RcIs.el {w : World} {t g cap : Nat} {c : CS} {M : List RE} (h : RcIs B w t (.slice (some ⟨g, 0, none⟩) M.length cap) c M) {j : Nat} {m : RE} (hm : M[j]? = some m) :
    w.cell? ⟨g, j * 7, none⟩ = some (.string ⟨m.e.nm.toArray⟩) ∧ w.cell? ⟨g, j * 7 + 1, none⟩ = some (.int .i64 m.e.ty) ∧ w.cell? ⟨g, j * 7 + 2, none⟩ = some (.int .i64 m.e.tl) ∧ w.cell? ⟨g, j * 7 + 3, none⟩ = some (.slice m.ao m.e.dt.length m.cap) ∧
    w.cell? ⟨g, j * 7 + 4, none⟩ = some (.int .i64 m.e.rk) ∧ w.cell? ⟨g, j * 7 + 5, none⟩ = some (.int .i64 m.e.en) ∧ w.cell? ⟨g, j * 7 + 6, none⟩ = some (.int .i64 m.e.us) :=
  ⟨elem_cell re_len h.row hm 0 _ (by omega) rfl, elem_cell re_len h.row hm 1 _ (by omega) rfl, elem_cell re_len h.row hm 2 _ (by omega) rfl, elem_cell re_len h.row hm 3 _ (by omega) rfl, elem_cell re_len h.row hm 4 _ (by omega) rfl, elem_cell re_len h.row hm 5 _ (by omega) rfl, elem_cell re_len h.row hm 6 _ (by omega) rfl⟩
theorem RcIs.len {w : World} {t : Nat} {v : Value} {c : CS} {M : List RE} (h : RcIs B w t v c M) (hok : COk c) : M.length ≤ 200 ∧ M.length = c.L.length := by
  have h1 : M.length = c.L.length := by rw [← h.abs]; simp
  have := hok.len
  have := hok.r2
  omega
set_option maxRecDepth 100000 in
set_option maxHeartbeats 2000000 in
theorem rfind_miss (t : Nat) (v : Value) (c : CS) (M : List RE) (nm : Bs) (ty : Int) (w : World) (h : RcIs B w t v c M) (hM : M.length ≤ 200) (hno : ∀ (j : Nat) x, M[j]? = some x → ¬ (x.e.nm = nm ∧ x.e.ty = ty)) :
    Calls Try.prog 63 #[.pointer (some ⟨t, 0, none⟩), .string ⟨nm.toArray⟩, .int .i64 ty] w (Rets fun r w' => r = .int .i64 (-1) ∧ Upd0 w w') := by
  obtain ⟨ao, cap, rfl⟩ := ownsRow_slice h.row
  have hh := Lib.hid h
  have hnoh := Lib.hid hno
  have ht := blk_lt h.blk
  clear h hno
  go_enter Try.func63, Try.ntmps63
  go_wp2_with (first | (with_reducible refine wp_serial (by kernel_rfl) (by kernel_rfl) (by repeat with_reducible (first | apply NoBad.then | apply NoBad.inBlock | apply NoBad.jump | exact NoBad.rets)) ?_) | fail)
  go_loopw [7] (fun iv wr => ∃ j : Nat, j ≤ M.length ∧ iv = .int .i64 j ∧ Upd0 w wr) (fun iv _ => M.length - (intOf iv).toNat)
  case atStart => exact ⟨0, Nat.zero_le _, rfl, (by repeat first | with_reducible (first | exact Upd.refl _ _ | assumption | apply Upd.drew | apply Upd.alloc) | refine Upd0.tr ?_ (by with_reducible assumption) | refine Upd.setCell ?_ (fun h => absurd h (by first | exact Nat.lt_irrefl _ | (simp only []; omega))) _)⟩
  case round =>
    obtain ⟨j, hj, rfl, hu⟩ := hrel
    have hR := Lib.hid (hh.out.to0 hu)
    obtain ⟨c0, c1, c2, c3⟩ := hR.out.at
    by_cases hlt : j < M.length
    · obtain ⟨g, rfl⟩ := ownsRow_some hR.out.row (by omega)
      obtain ⟨m, hm⟩ : ∃ m, M[j]? = some m := ⟨M[j], List.getElem?_eq_getElem hlt⟩
      obtain ⟨e0, e1, e2, e3, e4, e5, e6⟩ := hR.out.el hm
      have hn0 := hnoh.out j m hm
      have hd : ¬ m.e.nm = nm ∨ (m.e.nm = nm ∧ ¬ m.e.ty = ty) := by
        by_cases e1 : m.e.nm = nm
        · exact .inr ⟨e1, fun e2 => hn0 ⟨e1, e2⟩⟩
        · exact .inl e1
      clear hn0 hm
      rcases hd with f1 | ⟨f1, f2⟩
      all_goals
        go_wp2_with (first | (with_reducible refine wp_serial (by kernel_rfl) (by kernel_rfl) (by repeat with_reducible (first | apply NoBad.then | apply NoBad.inBlock | apply NoBad.jump | exact NoBad.rets)) ?_) | fail)
        go_roundw
        case rel => exact ⟨j + 1, by omega, by go_num, (by repeat first | with_reducible (first | exact Upd.refl _ _ | assumption | apply Upd.drew | apply Upd.alloc) | refine Upd0.tr ?_ (by with_reducible assumption) | refine Upd.setCell ?_ (fun h => absurd h (by first | exact Nat.lt_irrefl _ | (simp only []; omega))) _)⟩
        case measure => simp [intOf]; omega
    · obtain rfl : j = M.length := by omega
      go_wp2_with (first | (with_reducible refine wp_serial (by kernel_rfl) (by kernel_rfl) (by repeat with_reducible (first | apply NoBad.then | apply NoBad.inBlock | apply NoBad.jump | exact NoBad.rets)) ?_) | fail)
      all_goals go_returns
      all_goals exact ⟨rfl, (by repeat first | with_reducible (first | exact Upd.refl _ _ | assumption | apply Upd.drew | apply Upd.alloc) | refine Upd0.tr ?_ (by with_reducible assumption) | refine Upd.setCell ?_ (fun h => absurd h (by first | exact Nat.lt_irrefl _ | (simp only []; omega))) _)⟩
set_option maxRecDepth 100000 in
set_option maxHeartbeats 2000000 in
theorem rfind_hit (t : Nat) (v : Value) (c : CS) (M : List RE) (nm : Bs) (ty : Int) (i : Nat) (m0 : RE) (w : World) (h : RcIs B w t v c M) (hM : M.length ≤ 200) (hi : M[i]? = some m0) (h1 : m0.e.nm = nm) (h2 : m0.e.ty = ty) (hno : ∀ (j : Nat) x, M[j]? = some x → (x.e.nm = nm ∧ x.e.ty = ty) → j = i) :
    Calls Try.prog 63 #[.pointer (some ⟨t, 0, none⟩), .string ⟨nm.toArray⟩, .int .i64 ty] w (Rets fun r w' => r = .int .i64 i ∧ Upd0 w w') := by
  obtain ⟨ao, cap, rfl⟩ := ownsRow_slice h.row
  have hil : i < M.length := (List.getElem?_eq_some_iff.1 hi).1
  have hh := Lib.hid h
  have hnoh := Lib.hid hno
  have hih := Lib.hid hi
  have ht := blk_lt h.blk
  clear h hno hi
  go_enter Try.func63, Try.ntmps63
  go_wp2_with (first | (with_reducible refine wp_serial (by kernel_rfl) (by kernel_rfl) (by repeat with_reducible (first | apply NoBad.then | apply NoBad.inBlock | apply NoBad.jump | exact NoBad.rets)) ?_) | fail)
  go_loopw [7] (fun iv wr => ∃ j : Nat, j ≤ i ∧ iv = .int .i64 j ∧ Upd0 w wr) (fun iv _ => M.length - (intOf iv).toNat)
  case atStart => exact ⟨0, Nat.zero_le _, rfl, (by repeat first | with_reducible (first | exact Upd.refl _ _ | assumption | apply Upd.drew | apply Upd.alloc) | refine Upd0.tr ?_ (by with_reducible assumption) | refine Upd.setCell ?_ (fun h => absurd h (by first | exact Nat.lt_irrefl _ | (simp only []; omega))) _)⟩
  case round =>
    obtain ⟨j, hj, rfl, hu⟩ := hrel
    have hR := Lib.hid (hh.out.to0 hu)
    obtain ⟨c0, c1, c2, c3⟩ := hR.out.at
    have hlt : j < M.length := by omega
    obtain ⟨g, rfl⟩ := ownsRow_some hR.out.row (by omega)
    by_cases hji : j = i
    · subst hji
      obtain ⟨e0, e1, e2, e3, e4, e5, e6⟩ := hR.out.el hih.out
      rw [h1] at e0
      rw [h2] at e1
      clear h1 h2
      go_wp2_with (first | (with_reducible refine wp_serial (by kernel_rfl) (by kernel_rfl) (by repeat with_reducible (first | apply NoBad.then | apply NoBad.inBlock | apply NoBad.jump | exact NoBad.rets)) ?_) | fail)
      all_goals go_returns
      all_goals exact ⟨rfl, (by repeat first | with_reducible (first | exact Upd.refl _ _ | assumption | apply Upd.drew | apply Upd.alloc) | refine Upd0.tr ?_ (by with_reducible assumption) | refine Upd.setCell ?_ (fun h => absurd h (by first | exact Nat.lt_irrefl _ | (simp only []; omega))) _)⟩
    · obtain ⟨m, hm⟩ : ∃ m, M[j]? = some m := ⟨M[j], List.getElem?_eq_getElem hlt⟩
      obtain ⟨e0, e1, e2, e3, e4, e5, e6⟩ := hR.out.el hm
      have hd : ¬ m.e.nm = nm ∨ (m.e.nm = nm ∧ ¬ m.e.ty = ty) := by
        by_cases e1 : m.e.nm = nm
        · exact .inr ⟨e1, fun e2 => hji (hnoh.out j m hm ⟨e1, e2⟩)⟩
        · exact .inl e1
      clear hm h1 h2
      rcases hd with f1 | ⟨f1, f2⟩
      all_goals
        go_wp2_with (first | (with_reducible refine wp_serial (by kernel_rfl) (by kernel_rfl) (by repeat with_reducible (first | apply NoBad.then | apply NoBad.inBlock | apply NoBad.jump | exact NoBad.rets)) ?_) | fail)
        go_roundw
        case rel => exact ⟨j + 1, by omega, by go_num, (by repeat first | with_reducible (first | exact Upd.refl _ _ | assumption | apply Upd.drew | apply Upd.alloc) | refine Upd0.tr ?_ (by with_reducible assumption) | refine Upd.setCell ?_ (fun h => absurd h (by first | exact Nat.lt_irrefl _ | (simp only []; omega))) _)⟩
        case measure => simp [intOf]; omega
theorem res_app (L N : List RE) : res (L ++ N) = res L ++ res N := by simp [res]
theorem wo_end {w w7 w8 : World} {ao7 ao8 : Option Addr} {n7 c7 n8 c8 : Nat} (hu7 : Upd0 w w7) (hf7 : Fresh w (.slice none 0 0) (.slice ao7 n7 c7)) (hu8 : Upd (fun k => (Value.slice ao7 n7 c7).ownBlock = some k) w7 w8) (hf8 : Fresh w7 (.slice ao7 n7 c7) (.slice ao8 n8 c8)) :
    Upd0 w w8 ∧ ∀ k, (Value.slice ao8 n8 c8).ownBlock = some k → w.heap.size ≤ k := by
  have h7 : ∀ k, (Value.slice ao7 n7 c7).ownBlock = some k → w.heap.size ≤ k := fun k hk => by
    rcases hf7 k hk with h | h
    · simp [Value.ownBlock] at h
    · exact h
  refine ⟨Upd.trans (S := fun _ => False) hu7 hu8 (fun q hq hs => absurd hq (by have := h7 q hs; omega)), fun k hk => ?_⟩
  rcases hf8 k hk with h | h
  · exact h7 k h
  · exact Nat.le_trans hu7.size h
set_option maxRecDepth 100000 in
set_option maxHeartbeats 2000000 in
theorem rwithout_w (g cap : Nat) (M : List RE) (i n : Nat) (hn : M.length = n) (hi : i < n) (hM : n ≤ 200) (w : World) (h : w.ownsRow 0 112 7 (.slice (some ⟨g, 0, none⟩) n cap) n (res M)) :
    Calls Try.prog 64 #[.slice (some ⟨g, 0, none⟩) n cap, .int .i64 i] w (Rets fun r w' => ∃ ao' cap', r = .slice ao' (n - 1) cap' ∧ w'.ownsRow 0 112 7 (.slice ao' (n - 1) cap') (n - 1) (res (M.take i ++ M.drop (i + 1))) ∧ Upd0 w w' ∧ ∀ k, (Value.slice ao' (n - 1) cap').ownBlock = some k → w.heap.size ≤ k) := by
  obtain ⟨i1, hj, hy0, hy1, hy2⟩ := info_parts info_re
  obtain ⟨cur, hblk, hcap, _⟩ := ownsRow_blk h
  have hg := blk_lt hblk
  have hh := Lib.hid h
  have hnh := Lib.hid hn
  clear h hblk hn
  have tkX : True := trivial
  have p1 := Lib.hid (part_cells re_len (l := M) hh.out 0 i)
  rw [List.drop_zero] at p1
  have p2 := Lib.hid (part_cells re_len (l := M) hh.out (i + 1) (n - (i + 1)))
  rw [List.take_of_length_le (by rw [List.length_drop, hnh.out]; exact Nat.le_refl _)] at p2
  have q1 : i ≤ cap := by omega
  by_cases hck : cap = i + 1
  · obtain rfl := hck
    obtain rfl : n = i + 1 := by omega
    have hd0 := Lib.hid (show M.drop (i + 1) = [] from List.drop_of_length_le (by rw [hnh.out]; exact Nat.le_refl _))
    rw [Nat.add_sub_cancel]
    go_enter Try.func64, Try.ntmps64
    go_wp2_with (first
      | (at_builtin; have _t := tkX; (refine wpList_appx (w := w) (by repeat first | exact Ext.refl _ | assumption | apply Ext.drew | apply Ext.alloc) rfl (.tmp 6) (.tmp 9) 56 rfl 112 i1 _ 7 80 Try.underlying56 hj hy0 hy1 hy2 rfl (by decide) (.slice none 0 0) 0 [] ⟨rfl, .inl ⟨rfl, rfl⟩⟩ rfl ⟨g, 0, none⟩ i (i + 1) (res (M.take i)) rfl (by rw [res, flat_len re_len, List.length_take, hnh.out]; omega) (fun j u hu => by simpa using p1.out j u hu) (fun u hu => res_oneC hu) (by omega) (by omega) ?_; rw [Nat.zero_add]; intro ao7 cap7 w7 hr7 hu7 hf7; have hr7h := Lib.hid hr7; have hu7h := Lib.hid (show Upd0 w w7 from hu7.mono (fun k _ e => by simp [Value.ownBlock] at e)); have hf7h := Lib.hid hf7; have hz7 := hu7.size; clear hr7 hu7 hf7; clear tkX _t))
      | (at_builtin; (refine wpList_appx (w := w7) (by repeat first | exact Ext.refl _ | assumption | apply Ext.drew | apply Ext.alloc) rfl (.tmp 11) (.tmp 15) 56 rfl 112 i1 _ 7 80 Try.underlying56 hj hy0 hy1 hy2 rfl (by decide) (.slice ao7 i cap7) i ([] ++ res (M.take i)) hr7h.out rfl ⟨g, 0, none⟩ 0 0 [] rfl rfl (fun j u hu => by simp at hu) (fun u hu => by simp at hu) (by omega) (by omega) ?_; intro ao8 cap8 w8 hr8 hu8 hf8; have hr8h := Lib.hid hr8; have hu8h := Lib.hid hu8; have hf8h := Lib.hid hf8; clear hr8 hu8 hf8))
      | (with_reducible refine wp_serial (by kernel_rfl) (by kernel_rfl) (by repeat with_reducible (first | apply NoBad.then | apply NoBad.inBlock | apply NoBad.jump | exact NoBad.rets)) ?_) | fail)
    all_goals go_returns
    all_goals
      obtain ⟨k1, k2⟩ := wo_end hu7h.out hf7h.out hu8h.out hf8h.out
      exact ⟨ao8, cap8, rfl, by have := hr8h.out; rw [hd0.out]; simpa using this, k1, k2⟩
  · obtain ⟨m, hm⟩ : ∃ m, n - (i + 1) = m := ⟨_, rfl⟩
    rw [show n - 1 = i + m by omega]
    go_enter Try.func64, Try.ntmps64
    go_wp2_with (first
      | (at_builtin; have _t := tkX; (refine wpList_appx (w := w) (by repeat first | exact Ext.refl _ | assumption | apply Ext.drew | apply Ext.alloc) rfl (.tmp 6) (.tmp 9) 56 rfl 112 i1 _ 7 80 Try.underlying56 hj hy0 hy1 hy2 rfl (by decide) (.slice none 0 0) 0 [] ⟨rfl, .inl ⟨rfl, rfl⟩⟩ rfl ⟨g, 0, none⟩ i cap (res (M.take i)) rfl (by rw [res, flat_len re_len, List.length_take, hnh.out]; omega) (fun j u hu => by simpa using p1.out j u hu) (fun u hu => res_oneC hu) (by omega) (by omega) ?_; rw [Nat.zero_add]; intro ao7 cap7 w7 hr7 hu7 hf7; have hr7h := Lib.hid hr7; have hu7h := Lib.hid (show Upd0 w w7 from hu7.mono (fun k _ e => by simp [Value.ownBlock] at e)); have hf7h := Lib.hid hf7; have hz7 := hu7.size; clear hr7 hu7 hf7; have p27 := Lib.hid (part_cells re_len (l := M) (ownsRow_upd hh.out hu7h.out (fun g hg h => h)) (i + 1) (n - (i + 1))); rw [List.take_of_length_le (by rw [List.length_drop, hnh.out]; exact Nat.le_refl _)] at p27; clear tkX _t))
      | (at_builtin; (refine wpList_appx (w := w7) (by repeat first | exact Ext.refl _ | assumption | apply Ext.drew | apply Ext.alloc) rfl (.tmp 11) (.tmp 15) 56 rfl 112 i1 _ 7 80 Try.underlying56 hj hy0 hy1 hy2 rfl (by decide) (.slice ao7 i cap7) i ([] ++ res (M.take i)) hr7h.out rfl ⟨g, (i + 1) * 7, none⟩ m (cap - (i + 1)) (res (M.drop (i + 1))) rfl (by rw [res, flat_len re_len, List.length_drop, hnh.out, hm]) (fun j u hu => p27.out j u hu) (fun u hu => res_oneC hu) (by omega) (by omega) ?_; intro ao8 cap8 w8 hr8 hu8 hf8; have hr8h := Lib.hid hr8; have hu8h := Lib.hid hu8; have hf8h := Lib.hid hf8; clear hr8 hu8 hf8))
      | (with_reducible refine wp_serial (by kernel_rfl) (by kernel_rfl) (by repeat with_reducible (first | apply NoBad.then | apply NoBad.inBlock | apply NoBad.jump | exact NoBad.rets)) ?_) | fail)
    all_goals go_returns
    all_goals
      obtain ⟨k1, k2⟩ := wo_end hu7h.out hf7h.out hu8h.out hf8h.out
      exact ⟨ao8, cap8, rfl, by have := hr8h.out; rw [res_app]; simpa using this, k1, k2⟩
end Go.Proofs.Ytijmbpokglohbaa
