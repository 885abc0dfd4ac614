/-
  slices.IndexFunc, slices.DeleteFunc over denials.
-/
import Derived.Test.YtdjleplefbmjbaaDnA
namespace Go.Proofs.Ytdjleplefbmjbaa
open Go.RowKit
set_option linter.unusedSimpArgs false
set_option linter.unusedVariables false
theorem cell8 {w : World} {b : Nat} {a0 a1 a2 a3 a4 a5 a6 a7 : Value} {t : TypeId} (h : w.heap[b]? = some (.cells #[a0, a1, a2, a3, a4, a5, a6, a7] t (0, 0))) : w.cell? ⟨b, 0, none⟩ = some a0 ∧ w.cell? ⟨b, 1, none⟩ = some a1 ∧ w.cell? ⟨b, 2, none⟩ = some a2 ∧ w.cell? ⟨b, 3, none⟩ = some a3 ∧ w.cell? ⟨b, 4, none⟩ = some a4 ∧ w.cell? ⟨b, 5, none⟩ = some a5 ∧ w.cell? ⟨b, 6, none⟩ = some a6 ∧ w.cell? ⟨b, 7, none⟩ = some a7 ∧ ∀ i, w.frozen? ⟨b, i, none⟩ = false :=
  ⟨by rw [blk_cell h]; rfl, by rw [blk_cell h]; rfl, by rw [blk_cell h]; rfl, by rw [blk_cell h]; rfl, by rw [blk_cell h]; rfl, by rw [blk_cell h]; rfl, by rw [blk_cell h]; rfl, by rw [blk_cell h]; rfl, fun i => blk_frz h i⟩
theorem fidx_hit {p : Ent → Bool} {es : List Ent} {j : Nat} {x : Ent} (hx : es[j]? = some x) (hno : (es.take j).findIdx? p = none) (hp : p x = true) : fidx p es = (j : Int) := by
  obtain ⟨hl, he⟩ := List.getElem?_eq_some_iff.1 hx
  have e : es = es.take j ++ x :: es.drop (j + 1) := by rw [← he, ← List.drop_eq_getElem_cons hl, List.take_append_drop]
  have e2 : es.findIdx? p = some j := by
    rw [e, List.findIdx?_append, hno]
    simp [List.findIdx?_cons, hp]
    omega
  rw [fidx, e2]
theorem fidx_miss {p : Ent → Bool} {es : List Ent} {j : Nat} {x : Ent} (hx : es[j]? = some x) (hno : (es.take j).findIdx? p = none) (hp : p x = false) : (es.take (j + 1)).findIdx? p = none := by
  rw [List.take_add_one, hx, List.findIdx?_append, hno]
  simp [List.findIdx?_cons, hp]
theorem fidx_lt {p : Ent → Bool} {es : List Ent} {i : Nat} (h : es.findIdx? p = some i) : i < es.length := by
  obtain ⟨h1, _⟩ := List.findIdx?_eq_some_iff_getElem.1 h
  exact h1
/-- half way through a DeleteFunc: a kept, j seen -/
structure DelI (p : Ent → Bool) (es L : List Ent) (a j : Nat) : Prop where
  kept : L.take a = (es.take j).filter fun x => !p x
  rest : L.drop j = es.drop j
theorem DelI.get {p : Ent → Bool} {es L : List Ent} {a j : Nat} (h : DelI p es L a j) {x : Ent} (hx : es[j]? = some x) : L[j]? = some x := by
  have : (L.drop j)[0]? = (es.drop j)[0]? := by rw [h.rest]
  simpa [hx] using this
theorem drop_succ_eq {α : Type} {l m : List α} {j : Nat} (h : l.drop j = m.drop j) : l.drop (j + 1) = m.drop (j + 1) := by
  rw [← List.drop_drop, ← List.drop_drop, h]
theorem take_snoc {es : List Ent} {j : Nat} {x : Ent} (hx : es[j]? = some x) (p : Ent → Bool) : (es.take (j + 1)).filter p = (es.take j).filter p ++ (if p x then [x] else []) := by
  rw [List.take_add_one, hx, List.filter_append]
  cases h : p x <;> simp [h]
theorem DelI.skip {p : Ent → Bool} {es L : List Ent} {a j : Nat} (h : DelI p es L a j) {x : Ent} (hx : es[j]? = some x) (hp : p x = true) : DelI p es L a (j + 1) :=
  ⟨by rw [take_snoc hx, h.kept, hp]; simp, drop_succ_eq h.rest⟩
theorem DelI.keep {p : Ent → Bool} {es L : List Ent} {a j : Nat} (h : DelI p es L a j) {x : Ent} (hx : es[j]? = some x) (hp : p x = false) (haj : a < j) : DelI p es (L.set a x) (a + 1) (j + 1) := by
  have hL := h.get hx
  have hl := (List.getElem?_eq_some_iff.1 hL).1
  refine ⟨?_, ?_⟩
  · rw [take_snoc hx, hp, ← h.kept, List.take_add_one, List.getElem?_set_self (by omega), List.take_set_of_le (Nat.le_refl _)]
    simp
  · rw [List.drop_set_of_lt (by omega)]
    exact drop_succ_eq h.rest
theorem fidx_start {p : Ent → Bool} {es : List Ent} {i : Nat} (h : es.findIdx? p = some i) : DelI p es es i (i + 1) := by
  obtain ⟨h1, h2, h3⟩ := List.findIdx?_eq_some_iff_getElem.1 h
  refine ⟨?_, rfl⟩
  rw [take_snoc (List.getElem?_eq_getElem h1), h2]
  simp only [Bool.not_true, Bool.false_eq_true, if_false, List.append_nil]
  symm
  rw [List.filter_eq_self]
  intro x hx
  obtain ⟨j, hj⟩ := List.getElem?_of_mem hx
  rw [List.getElem?_take] at hj
  split at hj
  · rename_i hji
    obtain ⟨_, rfl⟩ := List.getElem?_eq_some_iff.1 hj
    simpa using h3 j hji
  · cases hj
/-- what a DeleteFunc leaves -/
def DelTo (e : TypeId) (w w' : World) (v r : Value) (es : List Ent) (p : Ent → Bool) : Prop :=
  OffR w' e 8 r (es.filter fun x => !p x).length (ens (es.filter fun x => !p x)) ∧ Upd (fun k => v.ownBlock = some k) w w' ∧ ∀ k, r.ownBlock = some k → v.ownBlock = some k
theorem delTo_none {e : TypeId} {w : World} {v : Value} {es : List Ent} {p : Ent → Bool} (h : OffR w e 8 v es.length (ens es)) (hn : es.findIdx? p = none) : ∀ w', Upd0 w w' → DelTo e w w' v v es p := by
  intro w' hu
  have hf : es.filter (fun x => !p x) = es := by
    rw [List.filter_eq_self]
    intro x hx
    have := List.findIdx?_eq_none_iff.1 hn x hx
    simp [this]
  rw [DelTo, hf]
  exact ⟨h.upd0 hu, hu.mono (fun _ _ h => h.elim), fun _ h => h⟩
theorem set8_list {L : List Ent} {a : Nat} (ha : a < L.length) (x : Ent) :
    ((((((((ens L).set (a * 8) (.string ⟨x.nm.toArray⟩)).set (a * 8 + 1) (.int .i64 x.kd)).set (a * 8 + 2) (.int .i64 x.k)).set (a * 8 + 3) (.string ⟨x.sn.toArray⟩)).set (a * 8 + 4) (.int .i64 x.st)).set (a * 8 + 5) (.int .i64 x.tl)).set (a * 8 + 6) (.string ⟨x.sd.toArray⟩)).set (a * 8 + 7) (.int .i64 x.en) = ens (L.set a x) := by
  induction L generalizing a with
  | nil => simp at ha
  | cons y L ih =>
    cases a with
    | zero => rfl
    | succ a =>
      have h8 : ∀ (u : Value) (l : List Value) (i : Nat), (y.cells ++ l).set ((a + 1) * 8 + i) u = y.cells ++ l.set (a * 8 + i) u := fun u l i => by
        rw [List.set_append_right _ _ (by rw [en_len]; omega), en_len]
        congr 2; omega
      have h0 : ∀ (u : Value) (l : List Value), (y.cells ++ l).set ((a + 1) * 8) u = y.cells ++ l.set (a * 8) u := fun u l => h8 u l 0
      have ih := ih (a := a) (by simpa using ha)
      show ((((((((y.cells ++ ens L).set _ _).set _ _).set _ _).set _ _).set _ _).set _ _).set _ _).set _ _ = y.cells ++ ens (L.set a x)
      rw [h0, h8, h8, h8, h8, h8, h8, h8, ih]
section
variable {w w' : World} {e : TypeId} {g off cap n a : Nat} {L : List Ent} {x : Ent}
theorem set8_off (h : OffR w e 8 (.slice (some ⟨g, off, none⟩) n cap) n (ens L)) (ha : a < L.length) (hn : L.length = n) :
    OffR ((((((((w.setCell ⟨g, off + a * 8, none⟩ (.string ⟨x.nm.toArray⟩)).setCell ⟨g, off + a * 8 + 1, none⟩ (.int .i64 x.kd)).setCell ⟨g, off + a * 8 + 2, none⟩ (.int .i64 x.k)).setCell ⟨g, off + a * 8 + 3, none⟩ (.string ⟨x.sn.toArray⟩)).setCell ⟨g, off + a * 8 + 4, none⟩ (.int .i64 x.st)).setCell ⟨g, off + a * 8 + 5, none⟩ (.int .i64 x.tl)).setCell ⟨g, off + a * 8 + 6, none⟩ (.string ⟨x.sd.toArray⟩)).setCell ⟨g, off + a * 8 + 7, none⟩ (.int .i64 x.en)) e 8 (.slice (some ⟨g, off, none⟩) n cap) n (ens (L.set a x)) := by
  rw [← set8_list ha x]
  simp only [Nat.add_assoc]
  exact (((((((h.set (a * 8) (by omega) _).set (a * 8 + 1) (by omega) _).set (a * 8 + 2) (by omega) _).set (a * 8 + 3) (by omega) _).set (a * 8 + 4) (by omega) _).set (a * 8 + 5) (by omega) _).set (a * 8 + 6) (by omega) _).set (a * 8 + 7) (by omega) _
theorem set8_upd {w0 : World} {c0 c1 c2 c3 c4 c5 c6 c7 : Value} {o0 o1 o2 o3 o4 o5 o6 o7 : Nat} (h : Upd (fun k => k = g) w0 w) :
    Upd (fun k => k = g) w0 ((((((((w.setCell ⟨g, o0, none⟩ c0).setCell ⟨g, o1, none⟩ c1).setCell ⟨g, o2, none⟩ c2).setCell ⟨g, o3, none⟩ c3).setCell ⟨g, o4, none⟩ c4).setCell ⟨g, o5, none⟩ c5).setCell ⟨g, o6, none⟩ c6).setCell ⟨g, o7, none⟩ c7) := by
  repeat refine Upd.setCell (S := fun k => k = g) ?_ (fun _ => rfl) _
  exact h
theorem delTo_fin {p : Ent → Bool} {es : List Ent} {zs : List Value} {cur : Array Value} (h0 : OffR w e 8 (.slice (some ⟨g, off, none⟩) es.length cap) es.length (ens es)) (hu : Upd (fun k => k = g) w w') (hL : OffR w' e 8 (.slice (some ⟨g, off, none⟩) es.length cap) es.length (ens L)) (hI : DelI p es L a es.length) (ha : a < es.length)
    (hcu : w'.heap[g]? = some (.cells cur e (0, 0))) (hz : zs.length = (es.length - a) * 8) :
    DelTo e w (w'.setRow g (cur.toList.take (off + a * 8) ++ (zs ++ cur.toList.drop (off + a * 8 + (es.length - a) * 8))).toArray) (.slice (some ⟨g, off, none⟩) es.length cap) (.slice (some ⟨g, off, none⟩) a cap) es p := by
  obtain ⟨cur', hb, h1, h2, h3, h4⟩ := hL.blk
  rw [hcu] at hb
  injection hb with hb
  injection hb with hb
  subst hb
  have hk := hI.kept
  rw [List.take_length] at hk
  have hLl : L.length = es.length := by have := hL.1; rw [ens_len] at this; omega
  have hal : (L.take a).length = a := by rw [List.length_take]; omega
  have hcl : cur.toList.length = cur.size := Array.length_toList
  have hcap : es.length * 8 ≤ cap * 8 := by omega
  rw [DelTo, ← hk, hal]
  refine ⟨⟨by rw [ens_len, hal], .inr ⟨g, off, cap, _, rfl, setRow_heap w' g cur _ e _ hcu, by omega, h2, ?_, ?_⟩⟩, ?_, fun k hk => hk⟩
  · simp only [List.size_toArray, List.length_append, List.length_take, List.length_drop, hcl, hz]
    omega
  · have e2 : (cur.toList.take (off + a * 8)).length = off + a * 8 := by rw [List.length_take, hcl]; omega
    have e3 : ((cur.toList.take (off + a * 8)).drop off).length = a * 8 := by rw [List.length_drop, e2]; omega
    rw [List.drop_append_of_le_length (by rw [e2]; omega), List.take_append_of_le_length (by rw [e3]; omega), List.take_of_length_le (by rw [e3]; omega), List.drop_take, Nat.add_sub_cancel_left]
    have e4 : (ens L).take (a * 8) = ens (L.take a) := flat_take en_len L a
    rw [← e4, ← h4, List.take_take, Nat.min_eq_left (by omega)]
  · exact Upd.setRow (S := fun k => (Value.slice (some ⟨g, off, none⟩) es.length cap).ownBlock = some k) (hu.mono fun k _ hk => by rw [hk]; rfl) (fun _ => rfl) _
end
theorem indexP_w (es : List Ent) (hl : es.length ≤ 100000) (v : Value) (b : Nat) (pn : Bs) (pk : Int) (w : World) (h : OffR w 100 8 v es.length (ens es)) (hb : w.heap[b]? = some (.cells #[.string ⟨pn.toArray⟩, .int .i64 pk] 98 (0, 0))) :
    Calls Try.prog 74 #[v, .func (.func 62) #[] #[.pointer (some ⟨b, 0, none⟩)]] w (Rets fun r w' => r = .int .i64 (fidx (delP pn pk) es) ∧ Upd0 w w') := by
  obtain ⟨ao, cap, rfl⟩ := h.slice
  have hh := Lib.hid h
  have hbh := Lib.hid hb
  clear h hb
  go_enter Try.func74, Try.ntmps74
  go_wp2_with (first | (with_reducible refine wp_serial (by kernel_rfl) (by kernel_rfl) (by (repeat (first | (with_reducible apply NoBad.then) | (with_reducible apply NoBad.inBlock) | (with_reducible exact NoBad.rets))); done) ?_) | fail)
  go_loopw [5, 8] (fun _ jj wr => ∃ j : Nat, j ≤ es.length ∧ jj = .int .i64 j ∧ Upd0 w wr ∧ Hid ((es.take j).findIdx? (delP pn pk) = none)) (fun _ jj _ => es.length - (intOf jj).toNat)
  case atStart => exact ⟨0, Nat.zero_le _, rfl, Upd.refl _ _, Lib.hid rfl⟩
  case round =>
    obtain ⟨j, hj, rfl, hu, hno⟩ := hrel
    by_cases hlt : j < es.length
    · obtain ⟨g, off, rfl⟩ := hh.out.some (by omega)
      obtain ⟨x, hx⟩ : ∃ x, es[j]? = some x := ⟨es[j], List.getElem?_eq_getElem hlt⟩
      obtain ⟨e0, e1, e2, e3, e4, e5, e6, e7⟩ := ent_cells (hh.out.upd0 hu) hx
      have hxh := Lib.hid hx
      have hbr := Lib.hid (hu.block (fun h => h) hbh.out)
      clear hx
      cases hp : (delP pn pk) x with
      | true =>
        have hph := Lib.hid hp
        have hf := Lib.hid (fidx_hit hxh.out hno.out hp)
        clear hp
        go_wp2_with (first
          | (go_at_call 62; (with_reducible refine (delP_w x b pn pk _ hbr.out).use ?_); rintro v w2 ⟨rfl, hu2⟩; rw [hph.out])
          | (with_reducible refine wp_serial (by kernel_rfl) (by kernel_rfl) (by (repeat (first | (with_reducible apply NoBad.then) | (with_reducible apply NoBad.inBlock) | (with_reducible exact NoBad.rets))); done) ?_) | fail)
        all_goals go_returns
        all_goals exact ⟨by rw [hf.out]; rfl, (by (repeat (first | (with_reducible exact Upd.refl _ _) | (with_reducible assumption) | (with_reducible apply Upd.drew) | (with_reducible apply Upd.alloc) | (refine Upd0.tr ?_ (by with_reducible assumption)) | (refine Upd.setCell ?_ (fun h => absurd h (by first | exact Nat.lt_irrefl _ | (simp only []; omega))) _))); done)⟩
      | false =>
        have hph := Lib.hid hp
        have hf := Lib.hid (fidx_miss hxh.out hno.out hp)
        clear hp
        go_wp2_with (first
          | (go_at_call 62; (with_reducible refine (delP_w x b pn pk _ hbr.out).use ?_); rintro v w2 ⟨rfl, hu2⟩; rw [hph.out])
          | (with_reducible refine wp_serial (by kernel_rfl) (by kernel_rfl) (by (repeat (first | (with_reducible apply NoBad.then) | (with_reducible apply NoBad.inBlock) | (with_reducible exact NoBad.rets))); done) ?_) | fail)
        go_roundw
        case rel => exact ⟨j + 1, by omega, by go_num, (by (repeat (first | (with_reducible exact Upd.refl _ _) | (with_reducible assumption) | (with_reducible apply Upd.drew) | (with_reducible apply Upd.alloc) | (refine Upd0.tr ?_ (by with_reducible assumption)) | (refine Upd.setCell ?_ (fun h => absurd h (by first | exact Nat.lt_irrefl _ | (simp only []; omega))) _))); done), hf⟩
        case measure => simp [intOf]; omega
    · have hf := Lib.hid (show fidx (delP pn pk) es = -1 by
        have := hno.out
        rw [List.take_of_length_le (by omega)] at this
        rw [fidx, this])
      go_wp2_with (first | (with_reducible refine wp_serial (by kernel_rfl) (by kernel_rfl) (by (repeat (first | (with_reducible apply NoBad.then) | (with_reducible apply NoBad.inBlock) | (with_reducible exact NoBad.rets))); done) ?_) | fail)
      all_goals go_returns
      all_goals exact ⟨by rw [hf.out]; rfl, (by (repeat (first | (with_reducible exact Upd.refl _ _) | (with_reducible assumption) | (with_reducible apply Upd.drew) | (with_reducible apply Upd.alloc) | (refine Upd0.tr ?_ (by with_reducible assumption)) | (refine Upd.setCell ?_ (fun h => absurd h (by first | exact Nat.lt_irrefl _ | (simp only []; omega))) _))); done)⟩
set_option maxRecDepth 100000 in
set_option maxHeartbeats 2000000 in
theorem deleteP_w (es : List Ent) (hl : es.length ≤ 100000) (v : Value) (b : Nat) (pn : Bs) (pk : Int) (w : World) (h : OffR w 100 8 v es.length (ens es)) (hb : w.heap[b]? = some (.cells #[.string ⟨pn.toArray⟩, .int .i64 pk] 98 (0, 0))) :
    Calls Try.prog 61 #[v, .func (.func 62) #[] #[.pointer (some ⟨b, 0, none⟩)]] w (Rets fun r w' => DelTo 100 w w' v r es (delP pn pk)) := by
  have hix := Lib.hid (indexP_w es hl v b pn pk w h hb)
  cases hfi : es.findIdx? (delP pn pk) with
  | none =>
    have hid0 := Lib.hid (show fidx (delP pn pk) es = -1 by rw [fidx, hfi])
    have hhh := Lib.hid (delTo_none h hfi)
    clear h hb hfi
    go_enter Try.func61, Try.ntmps61
    go_wp2_with (first
      | (go_at_call 74; refine hix.out.use ?_; rintro v w1 ⟨rfl, hu1⟩; rw [hid0.out])
      | (with_reducible refine wp_serial (by kernel_rfl) (by kernel_rfl) (by (repeat (first | (with_reducible apply NoBad.then) | (with_reducible apply NoBad.inBlock) | (with_reducible exact NoBad.rets))); done) ?_) | fail)
    all_goals go_returns
    all_goals exact hhh.out _ (by (repeat (first | (with_reducible exact Upd.refl _ _) | (with_reducible assumption) | (with_reducible apply Upd.drew) | (with_reducible apply Upd.alloc) | (refine Upd0.tr ?_ (by with_reducible assumption)) | (refine Upd.setCell ?_ (fun h => absurd h (by first | exact Nat.lt_irrefl _ | (simp only []; omega))) _))); done)
  | some i =>
    obtain ⟨i0, z0, hi0, hz0, hz1, hz4, hz2, hz3⟩ := info_ent'
    have hid0 := Lib.hid (show fidx (delP pn pk) es = (i : Int) by rw [fidx, hfi])
    have hil := fidx_lt hfi
    have hst := Lib.hid (fidx_start hfi)
    obtain ⟨ao, cap, rfl⟩ := h.slice
    obtain ⟨g, off, rfl⟩ := h.some (by omega)
    have hh := Lib.hid h
    have hbh := Lib.hid hb
    have hgb : ¬ b = g := fun e => by obtain ⟨cur, hc⟩ := h.kind rfl; rw [e, hc] at hb; cases hb
    have hgl := h.lt (g := g) rfl
    clear h hb hfi
    go_enter Try.func61, Try.ntmps61
    go_wp2_with (first
      | (go_at_call 74; refine hix.out.use ?_; rintro v w1 ⟨rfl, hu1⟩; rw [hid0.out])
      | (with_reducible refine wp_serial (by kernel_rfl) (by kernel_rfl) (by (repeat (first | (with_reducible apply NoBad.then) | (with_reducible apply NoBad.inBlock) | (with_reducible exact NoBad.rets))); done) ?_) | fail)
    go_loopw [5, 6, 7] (fun aa jj _ wr => ∃ (a j : Nat) (L : List Ent), a < j ∧ j ≤ es.length ∧ aa = .int .i64 a ∧ jj = .int .i64 j ∧ L.length = es.length ∧ Upd (fun k => k = g) w wr ∧ Hid (OffR wr 100 8 (.slice (some ⟨g, off, none⟩) es.length cap) es.length (ens L)) ∧ Hid (DelI (delP pn pk) es L a j)) (fun _ jj _ _ => es.length - (intOf jj).toNat)
    case atStart => exact ⟨i, i + 1, es, by omega, by omega, rfl, by go_num, rfl, hu1.mono (fun _ _ h => h.elim), Lib.hid (hh.out.upd0 hu1), hst⟩
    case round =>
      obtain ⟨a, j, L, haj, hj, rfl, rfl, hLl, hu, hL, hI⟩ := hrel
      have hgr : g < wr.heap.size := Nat.lt_of_lt_of_le hgl hu.size
      by_cases hlt : j < es.length
      · obtain ⟨x, hx⟩ : ∃ x, es[j]? = some x := ⟨es[j], List.getElem?_eq_getElem hlt⟩
        obtain ⟨e0, e1, e2, e3, e4, e5, e6, e7⟩ := ent_cells hL.out (hI.out.get hx)
        have hxh := Lib.hid hx
        have hbr := Lib.hid (hu.block hgb hbh.out)
        clear hx
        cases hp : (delP pn pk) x with
        | true =>
          have hph := Lib.hid hp
          have hI2 := Lib.hid (hI.out.skip hxh.out hp)
          clear hp
          go_wp2_with (first
            | (go_at_call 62; (with_reducible refine (delP_w x b pn pk _ (blk_alloc hbr.out)).use ?_); rintro v w2 ⟨rfl, hu2⟩; rw [hph.out])
            | (with_reducible refine wp_serial (by kernel_rfl) (by kernel_rfl) (by (repeat (first | (with_reducible apply NoBad.then) | (with_reducible apply NoBad.inBlock) | (with_reducible exact NoBad.rets))); done) ?_) | fail)
          go_roundw
          case rel =>
            have hv2 : Upd0 wr w2 := (by (repeat (first | (with_reducible exact Upd.refl _ _) | (with_reducible assumption) | (with_reducible apply Upd.drew) | (with_reducible apply Upd.alloc) | (refine Upd0.tr ?_ (by with_reducible assumption)) | (refine Upd.setCell ?_ (fun h => absurd h (by first | exact Nat.lt_irrefl _ | (simp only []; omega))) _))); done)
            first
              | exact ⟨a, j + 1, L, by omega, by omega, rfl, by go_num, hLl, hu.trans hv2 (fun _ _ h => h.elim), Lib.hid (hL.out.upd0 hv2), hI2⟩
              | ((repeat apply Exists.intro); exact ⟨⟨a, j + 1, L, by omega, by omega, rfl, by go_num, hLl, hu.trans hv2 (fun _ _ h => h.elim), Lib.hid (hL.out.upd0 hv2), hI2⟩, rfl⟩)
          case measure => simp [intOf]; omega
        | false =>
          have hph := Lib.hid hp
          have hI2 := Lib.hid (hI.out.keep hxh.out hp haj)
          clear hp
          obtain ⟨y, hy⟩ : ∃ y, L[a]? = some y := ⟨L[a]'(by omega), List.getElem?_eq_getElem (by omega)⟩
          have hyh := Lib.hid hy
          clear hy
          have haL : a < L.length := by omega
          go_wp2_with (first
            | (go_at_call 62; (with_reducible refine (delP_w x b pn pk _ (blk_alloc hbr.out)).use ?_); rintro v w2 ⟨rfl, hu2⟩; rw [hph.out]; have hv2 : Upd0 wr w2 := (by (repeat (first | (with_reducible exact Upd.refl _ _) | (with_reducible assumption) | (with_reducible apply Upd.drew) | (with_reducible apply Upd.alloc) | (refine Upd0.tr ?_ (by with_reducible assumption)) | (refine Upd.setCell ?_ (fun h => absurd h (by first | exact Nat.lt_irrefl _ | (simp only []; omega))) _))); done); obtain ⟨f0, f1, f2, f3, f4, f5, f6, f7⟩ := ent_cells (hL.out.upd0 hv2) hyh.out; obtain ⟨cur, hcu, _⟩ := (hL.out.upd0 hv2).blk; have hfz : ∀ o, w2.frozen? ⟨g, o, none⟩ = false := (fun o => blk_frz hcu o); obtain ⟨p0, p1, p2, p3, p4, p5, p6, p7, p8⟩ := cell8 (hu2.block (fun h => h) (alloc_last _ _ wr.heap.size rfl)); have hL2 := Lib.hid (hL.out.upd0 hv2); have hv2h := Lib.hid hv2; clear hcu hv2)
            | (with_reducible refine wp_serial (by kernel_rfl) (by kernel_rfl) (by (repeat (first | (with_reducible apply NoBad.then) | (with_reducible apply NoBad.inBlock) | (with_reducible exact NoBad.rets))); done) ?_) | fail)
          go_roundw
          case rel =>
            first
              | exact ⟨a + 1, j + 1, L.set a x, by omega, by omega, by go_num, by go_num, by simpa using hLl, set8_upd (hu.trans hv2h.out (fun _ _ h => h.elim)), Lib.hid (set8_off hL2.out haL hLl), hI2⟩
              | ((repeat apply Exists.intro); exact ⟨⟨a + 1, j + 1, L.set a x, by omega, by omega, by go_num, by go_num, by simpa using hLl, set8_upd (hu.trans hv2h.out (fun _ _ h => h.elim)), Lib.hid (set8_off hL2.out haL hLl), hI2⟩, rfl⟩)
          case measure => simp [intOf]; omega
      · have hje : j = es.length := by omega
        subst hje
        obtain ⟨cur, hcu, hc1, hc2, hc3, hc4⟩ := hL.out.blk
        have hcuh := Lib.hid hcu
        have hfin := Lib.hid (fun zs hz => delTo_fin hh.out hu hL.out hI.out haj hcu (zs := zs) hz)
        have hcc : a ≤ cap := by omega
        have hce : es.length ≤ cap := hc1
        clear hcu hc4
        go_wp2_with (first
          | (show Go.wpList _ _ _ (Go.Oper.mk _ (Go.Op.call { callee := Go.Callee.builtin Go.Builtin.clear, args := _, argTypes := _ }) _ _ _ _ :: _) _ _; refine wpList_clear rfl (.tmp 38) 91 rfl 100 i0 _ 8 Try.underlying91 hi0 hz0 hz1 hz4 g (off + a * 8) (es.length - a) _ cur hcuh.out ⟨g, off + a * 8, none⟩ rfl (fun _ => rfl) (by omega) ?_; intro zs hzs; have hzh := Lib.hid hzs; clear hzs)
          | (with_reducible refine wp_serial (by kernel_rfl) (by kernel_rfl) (by (repeat (first | (with_reducible apply NoBad.then) | (with_reducible apply NoBad.inBlock) | (with_reducible exact NoBad.rets))); done) ?_) | fail)
        all_goals go_returns
        all_goals exact hfin.out zs hzh.out
theorem indexD_w (es : List Ent) (hl : es.length ≤ 100000) (v : Value) (b : Nat) (pn : Bs) (w : World) (h : OffR w 100 8 v es.length (ens es)) (hb : w.heap[b]? = some (.cells #[.string ⟨pn.toArray⟩] 22 (0, 0))) :
    Calls Try.prog 74 #[v, .func (.func 63) #[] #[.pointer (some ⟨b, 0, none⟩)]] w (Rets fun r w' => r = .int .i64 (fidx (delD pn) es) ∧ Upd0 w w') := by
  obtain ⟨ao, cap, rfl⟩ := h.slice
  have hh := Lib.hid h
  have hbh := Lib.hid hb
  clear h hb
  go_enter Try.func74, Try.ntmps74
  go_wp2_with (first | (with_reducible refine wp_serial (by kernel_rfl) (by kernel_rfl) (by (repeat (first | (with_reducible apply NoBad.then) | (with_reducible apply NoBad.inBlock) | (with_reducible exact NoBad.rets))); done) ?_) | fail)
  go_loopw [5, 8] (fun _ jj wr => ∃ j : Nat, j ≤ es.length ∧ jj = .int .i64 j ∧ Upd0 w wr ∧ Hid ((es.take j).findIdx? (delD pn) = none)) (fun _ jj _ => es.length - (intOf jj).toNat)
  case atStart => exact ⟨0, Nat.zero_le _, rfl, Upd.refl _ _, Lib.hid rfl⟩
  case round =>
    obtain ⟨j, hj, rfl, hu, hno⟩ := hrel
    by_cases hlt : j < es.length
    · obtain ⟨g, off, rfl⟩ := hh.out.some (by omega)
      obtain ⟨x, hx⟩ : ∃ x, es[j]? = some x := ⟨es[j], List.getElem?_eq_getElem hlt⟩
      obtain ⟨e0, e1, e2, e3, e4, e5, e6, e7⟩ := ent_cells (hh.out.upd0 hu) hx
      have hxh := Lib.hid hx
      have hbr := Lib.hid (hu.block (fun h => h) hbh.out)
      clear hx
      cases hp : (delD pn) x with
      | true =>
        have hph := Lib.hid hp
        have hf := Lib.hid (fidx_hit hxh.out hno.out hp)
        clear hp
        go_wp2_with (first
          | (go_at_call 63; (with_reducible refine (delD_w x b pn _ hbr.out).use ?_); rintro v w2 ⟨rfl, hu2⟩; rw [hph.out])
          | (with_reducible refine wp_serial (by kernel_rfl) (by kernel_rfl) (by (repeat (first | (with_reducible apply NoBad.then) | (with_reducible apply NoBad.inBlock) | (with_reducible exact NoBad.rets))); done) ?_) | fail)
        all_goals go_returns
        all_goals exact ⟨by rw [hf.out]; rfl, (by (repeat (first | (with_reducible exact Upd.refl _ _) | (with_reducible assumption) | (with_reducible apply Upd.drew) | (with_reducible apply Upd.alloc) | (refine Upd0.tr ?_ (by with_reducible assumption)) | (refine Upd.setCell ?_ (fun h => absurd h (by first | exact Nat.lt_irrefl _ | (simp only []; omega))) _))); done)⟩
      | false =>
        have hph := Lib.hid hp
        have hf := Lib.hid (fidx_miss hxh.out hno.out hp)
        clear hp
        go_wp2_with (first
          | (go_at_call 63; (with_reducible refine (delD_w x b pn _ hbr.out).use ?_); rintro v w2 ⟨rfl, hu2⟩; rw [hph.out])
          | (with_reducible refine wp_serial (by kernel_rfl) (by kernel_rfl) (by (repeat (first | (with_reducible apply NoBad.then) | (with_reducible apply NoBad.inBlock) | (with_reducible exact NoBad.rets))); done) ?_) | fail)
        go_roundw
        case rel => exact ⟨j + 1, by omega, by go_num, (by (repeat (first | (with_reducible exact Upd.refl _ _) | (with_reducible assumption) | (with_reducible apply Upd.drew) | (with_reducible apply Upd.alloc) | (refine Upd0.tr ?_ (by with_reducible assumption)) | (refine Upd.setCell ?_ (fun h => absurd h (by first | exact Nat.lt_irrefl _ | (simp only []; omega))) _))); done), hf⟩
        case measure => simp [intOf]; omega
    · have hf := Lib.hid (show fidx (delD pn) es = -1 by
        have := hno.out
        rw [List.take_of_length_le (by omega)] at this
        rw [fidx, this])
      go_wp2_with (first | (with_reducible refine wp_serial (by kernel_rfl) (by kernel_rfl) (by (repeat (first | (with_reducible apply NoBad.then) | (with_reducible apply NoBad.inBlock) | (with_reducible exact NoBad.rets))); done) ?_) | fail)
      all_goals go_returns
      all_goals exact ⟨by rw [hf.out]; rfl, (by (repeat (first | (with_reducible exact Upd.refl _ _) | (with_reducible assumption) | (with_reducible apply Upd.drew) | (with_reducible apply Upd.alloc) | (refine Upd0.tr ?_ (by with_reducible assumption)) | (refine Upd.setCell ?_ (fun h => absurd h (by first | exact Nat.lt_irrefl _ | (simp only []; omega))) _))); done)⟩
set_option maxRecDepth 100000 in
set_option maxHeartbeats 2000000 in
theorem deleteD_w (es : List Ent) (hl : es.length ≤ 100000) (v : Value) (b : Nat) (pn : Bs) (w : World) (h : OffR w 100 8 v es.length (ens es)) (hb : w.heap[b]? = some (.cells #[.string ⟨pn.toArray⟩] 22 (0, 0))) :
    Calls Try.prog 61 #[v, .func (.func 63) #[] #[.pointer (some ⟨b, 0, none⟩)]] w (Rets fun r w' => DelTo 100 w w' v r es (delD pn)) := by
  have hix := Lib.hid (indexD_w es hl v b pn w h hb)
  cases hfi : es.findIdx? (delD pn) with
  | none =>
    have hid0 := Lib.hid (show fidx (delD pn) es = -1 by rw [fidx, hfi])
    have hhh := Lib.hid (delTo_none h hfi)
    clear h hb hfi
    go_enter Try.func61, Try.ntmps61
    go_wp2_with (first
      | (go_at_call 74; refine hix.out.use ?_; rintro v w1 ⟨rfl, hu1⟩; rw [hid0.out])
      | (with_reducible refine wp_serial (by kernel_rfl) (by kernel_rfl) (by (repeat (first | (with_reducible apply NoBad.then) | (with_reducible apply NoBad.inBlock) | (with_reducible exact NoBad.rets))); done) ?_) | fail)
    all_goals go_returns
    all_goals exact hhh.out _ (by (repeat (first | (with_reducible exact Upd.refl _ _) | (with_reducible assumption) | (with_reducible apply Upd.drew) | (with_reducible apply Upd.alloc) | (refine Upd0.tr ?_ (by with_reducible assumption)) | (refine Upd.setCell ?_ (fun h => absurd h (by first | exact Nat.lt_irrefl _ | (simp only []; omega))) _))); done)
  | some i =>
    obtain ⟨i0, z0, hi0, hz0, hz1, hz4, hz2, hz3⟩ := info_ent'
    have hid0 := Lib.hid (show fidx (delD pn) es = (i : Int) by rw [fidx, hfi])
    have hil := fidx_lt hfi
    have hst := Lib.hid (fidx_start hfi)
    obtain ⟨ao, cap, rfl⟩ := h.slice
    obtain ⟨g, off, rfl⟩ := h.some (by omega)
    have hh := Lib.hid h
    have hbh := Lib.hid hb
    have hgb : ¬ b = g := fun e => by obtain ⟨cur, hc⟩ := h.kind rfl; rw [e, hc] at hb; cases hb
    have hgl := h.lt (g := g) rfl
    clear h hb hfi
    go_enter Try.func61, Try.ntmps61
    go_wp2_with (first
      | (go_at_call 74; refine hix.out.use ?_; rintro v w1 ⟨rfl, hu1⟩; rw [hid0.out])
      | (with_reducible refine wp_serial (by kernel_rfl) (by kernel_rfl) (by (repeat (first | (with_reducible apply NoBad.then) | (with_reducible apply NoBad.inBlock) | (with_reducible exact NoBad.rets))); done) ?_) | fail)
    go_loopw [5, 6, 7] (fun aa jj _ wr => ∃ (a j : Nat) (L : List Ent), a < j ∧ j ≤ es.length ∧ aa = .int .i64 a ∧ jj = .int .i64 j ∧ L.length = es.length ∧ Upd (fun k => k = g) w wr ∧ Hid (OffR wr 100 8 (.slice (some ⟨g, off, none⟩) es.length cap) es.length (ens L)) ∧ Hid (DelI (delD pn) es L a j)) (fun _ jj _ _ => es.length - (intOf jj).toNat)
    case atStart => exact ⟨i, i + 1, es, by omega, by omega, rfl, by go_num, rfl, hu1.mono (fun _ _ h => h.elim), Lib.hid (hh.out.upd0 hu1), hst⟩
    case round =>
      obtain ⟨a, j, L, haj, hj, rfl, rfl, hLl, hu, hL, hI⟩ := hrel
      have hgr : g < wr.heap.size := Nat.lt_of_lt_of_le hgl hu.size
      by_cases hlt : j < es.length
      · obtain ⟨x, hx⟩ : ∃ x, es[j]? = some x := ⟨es[j], List.getElem?_eq_getElem hlt⟩
        obtain ⟨e0, e1, e2, e3, e4, e5, e6, e7⟩ := ent_cells hL.out (hI.out.get hx)
        have hxh := Lib.hid hx
        have hbr := Lib.hid (hu.block hgb hbh.out)
        clear hx
        cases hp : (delD pn) x with
        | true =>
          have hph := Lib.hid hp
          have hI2 := Lib.hid (hI.out.skip hxh.out hp)
          clear hp
          go_wp2_with (first
            | (go_at_call 63; (with_reducible refine (delD_w x b pn _ (blk_alloc hbr.out)).use ?_); rintro v w2 ⟨rfl, hu2⟩; rw [hph.out])
            | (with_reducible refine wp_serial (by kernel_rfl) (by kernel_rfl) (by (repeat (first | (with_reducible apply NoBad.then) | (with_reducible apply NoBad.inBlock) | (with_reducible exact NoBad.rets))); done) ?_) | fail)
          go_roundw
          case rel =>
            have hv2 : Upd0 wr w2 := (by (repeat (first | (with_reducible exact Upd.refl _ _) | (with_reducible assumption) | (with_reducible apply Upd.drew) | (with_reducible apply Upd.alloc) | (refine Upd0.tr ?_ (by with_reducible assumption)) | (refine Upd.setCell ?_ (fun h => absurd h (by first | exact Nat.lt_irrefl _ | (simp only []; omega))) _))); done)
            first
              | exact ⟨a, j + 1, L, by omega, by omega, rfl, by go_num, hLl, hu.trans hv2 (fun _ _ h => h.elim), Lib.hid (hL.out.upd0 hv2), hI2⟩
              | ((repeat apply Exists.intro); exact ⟨⟨a, j + 1, L, by omega, by omega, rfl, by go_num, hLl, hu.trans hv2 (fun _ _ h => h.elim), Lib.hid (hL.out.upd0 hv2), hI2⟩, rfl⟩)
          case measure => simp [intOf]; omega
        | false =>
          have hph := Lib.hid hp
          have hI2 := Lib.hid (hI.out.keep hxh.out hp haj)
          clear hp
          obtain ⟨y, hy⟩ : ∃ y, L[a]? = some y := ⟨L[a]'(by omega), List.getElem?_eq_getElem (by omega)⟩
          have hyh := Lib.hid hy
          clear hy
          have haL : a < L.length := by omega
          go_wp2_with (first
            | (go_at_call 63; (with_reducible refine (delD_w x b pn _ (blk_alloc hbr.out)).use ?_); rintro v w2 ⟨rfl, hu2⟩; rw [hph.out]; have hv2 : Upd0 wr w2 := (by (repeat (first | (with_reducible exact Upd.refl _ _) | (with_reducible assumption) | (with_reducible apply Upd.drew) | (with_reducible apply Upd.alloc) | (refine Upd0.tr ?_ (by with_reducible assumption)) | (refine Upd.setCell ?_ (fun h => absurd h (by first | exact Nat.lt_irrefl _ | (simp only []; omega))) _))); done); obtain ⟨f0, f1, f2, f3, f4, f5, f6, f7⟩ := ent_cells (hL.out.upd0 hv2) hyh.out; obtain ⟨cur, hcu, _⟩ := (hL.out.upd0 hv2).blk; have hfz : ∀ o, w2.frozen? ⟨g, o, none⟩ = false := (fun o => blk_frz hcu o); obtain ⟨p0, p1, p2, p3, p4, p5, p6, p7, p8⟩ := cell8 (hu2.block (fun h => h) (alloc_last _ _ wr.heap.size rfl)); have hL2 := Lib.hid (hL.out.upd0 hv2); have hv2h := Lib.hid hv2; clear hcu hv2)
            | (with_reducible refine wp_serial (by kernel_rfl) (by kernel_rfl) (by (repeat (first | (with_reducible apply NoBad.then) | (with_reducible apply NoBad.inBlock) | (with_reducible exact NoBad.rets))); done) ?_) | fail)
          go_roundw
          case rel =>
            first
              | exact ⟨a + 1, j + 1, L.set a x, by omega, by omega, by go_num, by go_num, by simpa using hLl, set8_upd (hu.trans hv2h.out (fun _ _ h => h.elim)), Lib.hid (set8_off hL2.out haL hLl), hI2⟩
              | ((repeat apply Exists.intro); exact ⟨⟨a + 1, j + 1, L.set a x, by omega, by omega, by go_num, by go_num, by simpa using hLl, set8_upd (hu.trans hv2h.out (fun _ _ h => h.elim)), Lib.hid (set8_off hL2.out haL hLl), hI2⟩, rfl⟩)
          case measure => simp [intOf]; omega
      · have hje : j = es.length := by omega
        subst hje
        obtain ⟨cur, hcu, hc1, hc2, hc3, hc4⟩ := hL.out.blk
        have hcuh := Lib.hid hcu
        have hfin := Lib.hid (fun zs hz => delTo_fin hh.out hu hL.out hI.out haj hcu (zs := zs) hz)
        have hcc : a ≤ cap := by omega
        have hce : es.length ≤ cap := hc1
        clear hcu hc4
        go_wp2_with (first
          | (show Go.wpList _ _ _ (Go.Oper.mk _ (Go.Op.call { callee := Go.Callee.builtin Go.Builtin.clear, args := _, argTypes := _ }) _ _ _ _ :: _) _ _; refine wpList_clear rfl (.tmp 38) 91 rfl 100 i0 _ 8 Try.underlying91 hi0 hz0 hz1 hz4 g (off + a * 8) (es.length - a) _ cur hcuh.out ⟨g, off + a * 8, none⟩ rfl (fun _ => rfl) (by omega) ?_; intro zs hzs; have hzh := Lib.hid hzs; clear hzs)
          | (with_reducible refine wp_serial (by kernel_rfl) (by kernel_rfl) (by (repeat (first | (with_reducible apply NoBad.then) | (with_reducible apply NoBad.inBlock) | (with_reducible exact NoBad.rets))); done) ?_) | fail)
        all_goals go_returns
        all_goals exact hfin.out zs hzh.out
end Go.Proofs.Ytdjleplefbmjbaa
