/-
  Networks: slices.Delete, Take.
-/
import Derived.Test.YtfhaehkofeiobaaNetB
namespace Go.Proofs.Ytfhaehkofeiobaa
open Go.RowKit
set_option linter.unusedSimpArgs false
set_option linter.unusedVariables false

theorem pks_one' (l : List Pk) : ∀ u ∈ pks l, u.oneCell' = true := by
  intro u hu
  simp only [pks, List.mem_flatMap, Pk.cells] at hu
  obtain ⟨p, _, h⟩ := hu
  simp at h
  rcases h with rfl | rfl | rfl <;> rfl
/-- the row behind a Delete: its cells, and how many -/
def DelRow (g cap k : Nat) (xs : List Value) (w w' : World) : Prop := ∃ cur' : Array Value, cur'.size = cap * 3 ∧ cur'.toList.take (k * 3) = xs ∧ w' = (w.setRow g cur').drew
theorem delrow_mk {g cap i m : Nat} {cur : Array Value} {w : World} (hc : cur.size = cap * 3) (hn : i + 1 + m ≤ cap) (zs : List Value) (hz : zs.length = 1 * 3) {X : List Value} (hX : X = (cur.toList.take ((i + 1 + m) * 3)).drop ((i + 1) * 3)) {C C2 : Array Value}
    (hC : C = (cur.toList.take (i * 3) ++ X ++ cur.toList.drop (i * 3 + X.length)).toArray) (hC2 : C2 = (C.toList.take ((i + m) * 3) ++ zs ++ C.toList.drop ((i + m) * 3 + 1 * 3)).toArray) :
    DelRow g cap (i + m) (cur.toList.take (i * 3) ++ (cur.toList.take ((i + 1 + m) * 3)).drop ((i + 1) * 3)) w ((w.drew.setRow g C).setRow g C2) := by
  have hlen : cur.toList.length = cap * 3 := by simpa using hc
  have hXl : X.length = m * 3 := by rw [hX, List.length_drop, List.length_take, hlen]; omega
  have hC1 : C.toList.length = cap * 3 := by
    rw [hC]; simp only [List.length_append, List.length_take, List.length_drop, hlen, hXl]; omega
  refine ⟨C2, ?_, ?_, by rw [setRow_setRow]; rfl⟩
  · rw [hC2]; simp only [List.size_toArray, List.length_append, List.length_take, List.length_drop, hC1, hz]; omega
  · have e1 : (C.toList.take ((i + m) * 3)).length = (i + m) * 3 := by rw [List.length_take, hC1]; omega
    rw [← hX, hC2]
    simp only []
    rw [List.append_assoc, List.take_append_of_le_length (by omega), List.take_take, Nat.min_self, hC]
    simp only []
    rw [List.take_append_of_le_length (by simp only [List.length_append, List.length_take, hlen, hXl]; omega), List.take_of_length_le (by simp only [List.length_append, List.length_take, hlen, hXl]; omega)]
theorem del_cells {w : World} {g o n : Nat} {cur : Array Value} {e : TypeId} (hg : w.heap[g]? = some (.cells cur e (0, 0))) : ∀ j u, ((cur.toList.take n).drop o)[j]? = some u → w.cell? ((⟨g, o, none⟩ : Addr).add j) = some u := by
  intro j u hu
  rw [Addr.add_lit, blk_cell hg]
  rw [List.getElem?_drop, List.getElem?_take] at hu
  split at hu
  · simpa using hu
  · cases hu
theorem del_fit {i m cap : Nat} {cur C : Array Value} {X : List Value} (hC : C = (cur.toList.take (i * 3) ++ X ++ cur.toList.drop (i * 3 + X.length)).toArray) (hl : cur.toList.length = cap * 3) (hX : X.length = m * 3) (hn : i + 1 + m ≤ cap) : (i + m) * 3 + 1 * 3 ≤ C.size := by
  rw [hC]; simp only [List.size_toArray, List.length_append, List.length_take, List.length_drop, hl, hX]; omega
theorem delete_walk (g cap i m : Nat) (cur : Array Value) (w : World) (hg : w.heap[g]? = some (.cells cur 37 (0, 0))) (hc : cur.size = cap * 3) (hn : i + 1 + m ≤ cap) (hm : i + 1 + m ≤ 1000) (hone : ∀ u ∈ cur.toList.take ((i + 1 + m) * 3), u.oneCell' = true) :
    Calls Try.prog 23 #[.slice (some ⟨g, 0, none⟩) (i + 1 + m) cap, .int .i64 i, .int .i64 ((i : Int) + 1)] w (Rets fun r w' =>
      r = .slice (some ⟨g, 0, none⟩) (i + m) cap ∧ DelRow g cap (i + m) (cur.toList.take (i * 3) ++ (cur.toList.take ((i + 1 + m) * 3)).drop ((i + 1) * 3)) w w') := by
  obtain ⟨i0, hi0, hz0, hz1, hz2⟩ := info_parts info_pk
  have hne : ((i : Int) == (i : Int) + 1) = false := by rw [beq_eq_false_iff_ne]; omega
  have hlen : cur.toList.length = cap * 3 := by simpa using hc
  have hX : ((cur.toList.take ((i + 1 + m) * 3)).drop ((i + 1) * 3)).length = m * 3 := by rw [List.length_drop, List.length_take, hlen]; omega
  have hfin := Lib.hid (@delrow_mk g cap i m cur w hc hn)
  have honeh := Lib.hid hone
  have hXh := Lib.hid hX
  have hlenh := Lib.hid hlen
  clear hX hlen hone
  by_cases hcap : cap = i + 1
  · have hm0 : m = 0 := by omega
    subst hcap hm0
    have hX0 : (cur.toList.take ((i + 1 + 0) * 3)).drop ((i + 1) * 3) = [] := List.eq_nil_of_length_eq_zero (by rw [hXh.out])
    have hX0h := Lib.hid hX0
    clear hX0
    go_enter Try.func23, Try.ntmps23
    go_wp2_with (first
      | (with_reducible refine wp_serial (by kernel_rfl) (by kernel_rfl) (by (repeat (first | (with_reducible apply NoBad.then) | (with_reducible apply NoBad.inBlock) | (with_reducible exact NoBad.rets))); done) ?_)
      | (at_builtin; refine wpList_app_room rfl (.tmp 22) (.tmp 25) 53 rfl 37 i0 3 Try.underlying53 hi0 hz1 g i (i + 1) cur hg rfl ⟨g, 0, none⟩ 0 _ [] rfl rfl (by simp) (by simp) (by omega) (by simp; omega) ?_; obtain ⟨C, hC⟩ : ∃ C, C = (cur.toList.take (i * 3) ++ [] ++ cur.toList.drop (i * 3 + ([] : List Value).length)).toArray := ⟨_, rfl⟩; rw [← hC]; have hCh := Lib.hid hC; clear hC)
      | (refine wpList_clear rfl (.tmp 31) 53 rfl 37 i0 _ 3 Try.underlying53 hi0 hz0 rfl rfl g (i * 3) 1 _ C (setRow_heap w g cur C _ _ hg) ⟨g, i * 3, none⟩ rfl (fun _ => rfl) (by rw [hCh.out]; simp; omega) ?_; intro zs hzs; have hzsh := Lib.hid hzs; clear hzs; obtain ⟨C2, hC2⟩ : ∃ C2, C2 = (C.toList.take (i * 3) ++ zs ++ C.toList.drop (i * 3 + 1 * 3)).toArray := ⟨_, rfl⟩; rw [← hC2]; have hC2h := Lib.hid hC2; clear hC2))
    all_goals go_ret
    exact ⟨rfl, hfin.out zs hzsh.out hX0h.out.symm hCh.out hC2h.out⟩
  · have hn1 := Lib.hid (show i + 1 + m - (i + m) = 1 by omega)
    go_enter Try.func23, Try.ntmps23
    go_wp2_with (first
      | (with_reducible refine wp_serial (by kernel_rfl) (by kernel_rfl) (by (repeat (first | (with_reducible apply NoBad.then) | (with_reducible apply NoBad.inBlock) | (with_reducible exact NoBad.rets))); done) ?_)
      | (at_builtin; refine wpList_app_room rfl (.tmp 22) (.tmp 25) 53 rfl 37 i0 3 Try.underlying53 hi0 hz1 g i cap cur hg rfl ⟨g, (i + 1) * 3, none⟩ m _ ((cur.toList.take ((i + 1 + m) * 3)).drop ((i + 1) * 3)) rfl hXh.out (del_cells hg) (fun u hu => honeh.out u (List.mem_of_mem_drop hu)) (by omega) (by rw [hXh.out]; omega) ?_; obtain ⟨C, hC⟩ : ∃ C, C = (cur.toList.take (i * 3) ++ (cur.toList.take ((i + 1 + m) * 3)).drop ((i + 1) * 3) ++ cur.toList.drop (i * 3 + ((cur.toList.take ((i + 1 + m) * 3)).drop ((i + 1) * 3)).length)).toArray := ⟨_, rfl⟩; rw [← hC]; have hCh := Lib.hid hC; clear hC)
      | (refine wpList_clear rfl (.tmp 31) 53 rfl 37 i0 _ 3 Try.underlying53 hi0 hz0 rfl rfl g ((i + m) * 3) (i + 1 + m - (i + m)) _ C (setRow_heap w g cur C _ _ hg) ⟨g, (i + m) * 3, none⟩ rfl (fun _ => rfl) (by rw [hn1.out]; exact del_fit hCh.out hlenh.out hXh.out hn) ?_; intro zs hzs; rw [hn1.out] at hzs ⊢; have hzsh := Lib.hid hzs; clear hzs; obtain ⟨C2, hC2⟩ : ∃ C2, C2 = (C.toList.take ((i + m) * 3) ++ zs ++ C.toList.drop ((i + m) * 3 + 1 * 3)).toArray := ⟨_, rfl⟩; rw [← hC2]; have hC2h := Lib.hid hC2; clear hC2))
    all_goals go_ret
    exact ⟨rfl, hfin.out zs hzsh.out rfl hCh.out hC2h.out⟩

theorem DelRow.rules {g cap k : Nat} {xs : List Value} {w w' : World} (h : DelRow g cap k xs w w') : (∀ b o, ¬ b = g → w'.cell? ⟨b, o, none⟩ = w.cell? ⟨b, o, none⟩) ∧ (∀ b o, ¬ b = g → w'.frozen? ⟨b, o, none⟩ = w.frozen? ⟨b, o, none⟩) ∧ w'.heap.size = w.heap.size := by
  obtain ⟨cur', _, _, rfl⟩ := h
  refine ⟨fun b o hb => ?_, fun b o hb => ?_, by simp [World.setRow]⟩
  · exact World.cell?_of_block (w := w) (setRow_other w g b cur' hb)
  · exact World.frozen?_of_block (w := w) (setRow_other w g b cur' hb)
theorem net_del {T E : TypeId} {w wm w1 : World} {b g cap : Nat} {nd rm : Int} {l m : List Pk} (hN : NetIs T E w b (.slice (some ⟨g, 0, none⟩) l.length cap) nd rm l) (h0 : Upd0 w wm) (hD : DelRow g cap m.length (pks m) wm w1) (hm : m.length ≤ l.length) :
    NetTo T E w (w1.setCell ⟨b, 2, none⟩ (.slice (some ⟨g, 0, none⟩) m.length cap)) b (.slice (some ⟨g, 0, none⟩) l.length cap) (.slice (some ⟨g, 0, none⟩) m.length cap) nd rm m := by
  obtain ⟨cur', hc, ht, rfl⟩ := hD
  obtain ⟨cur, r1, r2, r3, r4, r5⟩ := ownsRow_blk hN.row
  refine net_put hN ?_ (ownsRow_mk (cur := cur') ?_ (by omega) r3 hc ht) (fun k hk => .inl hk)
  · exact ((h0.mono (S' := fun k => (Value.slice (some ⟨g, 0, none⟩) l.length cap).ownBlock = some k) (fun _ _ h => h.elim)).setRow (fun _ => rfl) _).drew
  · exact setRow_heap wm g cur cur' E _ (h0.block (fun h => h) r1)
theorem pks_erase (l : List Pk) (i : Nat) (hi : i < l.length) {cur : List Value} (h : cur.take (l.length * 3) = pks l) : cur.take (i * 3) ++ (cur.take (l.length * 3)).drop ((i + 1) * 3) = pks (l.eraseIdx i) := by
  have h1 : cur.take (i * 3) = (pks l).take (i * 3) := by rw [← h, List.take_take]; congr 1; omega
  rw [h1, h, pks, flat_take pk_len, flat_drop pk_len, List.eraseIdx_eq_take_drop_succ, pks_app]; rfl
def takeL (l : List Pk) (i : Int) : List Pk := if lookB l i then l.eraseIdx i.toNat else l
theorem own_ne {k g n cap : Nat} (h : ¬ k = g) : (Value.slice (some ⟨g, 0, none⟩) n cap).ownBlock ≠ some k := fun e => h (by simpa [Value.ownBlock] using e.symm)
theorem take_some (b : Nat) (v : Value) (nd rm : Int) (l : List Pk) (w : World) (h : NetIs 55 37 w b v nd rm l) (hl : l.length ≤ 1000) (i : Int) (hb : lookB l i = true) :
    Calls Try.prog 12 #[.pointer (some ⟨b, 0, none⟩), .int .i64 i] w (Rets fun r w' => r = .tuple #[(lookP l i).val, .bool true] ∧ NetStep 55 37 w w' b v nd rm (l.eraseIdx i.toNat)) := by
  have h2 : 0 ≤ i ∧ i < l.length := by simpa [lookB] using hb
  obtain ⟨n, rfl⟩ := Int.eq_ofNat_of_zero_le h2.1
  have hn : n < l.length := by omega
  obtain ⟨ao, cap, rfl⟩ := ownsRow_slice h.row
  obtain ⟨g, rfl⟩ := ownsRow_some h.row (by omega)
  obtain ⟨cur, r1, r2, r3, r4, r5⟩ := ownsRow_blk h.row
  obtain ⟨m, hm⟩ : ∃ m, l.length = n + 1 + m := ⟨l.length - (n + 1), by omega⟩
  have c2 : w.cell? ⟨b, 2, none⟩ = some (.slice (some ⟨g, 0, none⟩) l.length cap) := by simpa using blk_cell h.blk 2
  have f2 := blk_frz h.blk 2
  have hbl := blk_lt h.blk
  have hne : ¬ b = g := fun e => h.ne (by rw [e]; rfl)
  have hh := Lib.hid h
  have hbh := Lib.hid hb
  have hgl := blk_lt r1
  have q0 : ¬ w.heap.size = g := by omega
  have hu0 : ∀ w1, Upd0 (w.alloc (.cells #[.int .i64 0, .int .i64 0, .string ⟨#[]⟩] 37)) w1 → Ext w w1 := fun w1 h => Ext.trans (by (repeat (first | exact Ext.refl _ | assumption | apply Ext.drew | apply Ext.alloc)); done) h.ext
  have hu0' : ∀ w1, Upd0 (w.alloc (.cells #[.int .i64 0, .int .i64 0, .string ⟨#[]⟩] 37)) w1 → ∀ o, Upd0 w (w1.alloc o) := fun w1 h o => (Upd.trans (by (repeat (first | exact Upd.refl _ _ | assumption | apply Upd.drew | apply Upd.alloc | (refine Upd.setCell ?_ (fun h => absurd h (by first | exact Nat.lt_irrefl _ | (simp only []; omega))) _))); done) h (fun _ _ h => h)).alloc o
  have hcur := Lib.hid (show w.heap[g]? = some (.cells cur 37 (0, 0)) ∧ cur.size = cap * 3 ∧ n + 1 + m ≤ cap ∧ (∀ u ∈ cur.toList.take ((n + 1 + m) * 3), u.oneCell' = true) from ⟨r1, r4, by omega, by rw [← hm, r5]; exact pks_one' l⟩)
  have her := Lib.hid (show cur.toList.take (n * 3) ++ (cur.toList.take ((n + 1 + m) * 3)).drop ((n + 1) * 3) = pks (l.eraseIdx n) from by rw [← hm]; exact pks_erase l n hn r5)
  have hel := Lib.hid (show (l.eraseIdx n).length = n + m from by rw [List.length_eraseIdx]; simp [hn]; omega)
  have hm1 : n + 1 + m ≤ 1000 := by omega
  have hmh := Lib.hid hm
  clear h hb h2 r1 r4 r5 r2 r3
  rw [hm] at c2
  clear hm
  go_enter Try.func12, Try.ntmps12
  go_wp2_with (first
    | (with_reducible refine wp_serial (by kernel_rfl) (by kernel_rfl) (by (repeat (first | (with_reducible apply NoBad.then) | (with_reducible apply NoBad.inBlock) | (with_reducible exact NoBad.rets))); done) ?_)
    | (go_at_call 19; refine (look_any _ _ _ _ _ _ (net_ext hh.out (by (repeat (first | exact Ext.refl _ | assumption | apply Ext.drew | apply Ext.alloc)); done)) hl _).use ?_; rintro v w1 ⟨rfl, hu⟩; rw [hbh.out]; obtain ⟨k1, k2, k3⟩ := hu.rules; simp only [World.size_alloc, World.size_drew] at k1 k2 k3; have kb : b < w1.heap.size := (by omega); have kr : w.heap.size < w1.heap.size := (by omega); have hu1 := Lib.hid hu; clear hu k3)
    | (go_at_call 23; refine (delete_walk g cap n m cur _ (ext_block (Ext.trans (hu0 _ hu1.out) (by (repeat (first | exact Ext.refl _ | assumption | apply Ext.drew | apply Ext.alloc)); done)) hcur.out.1) hcur.out.2.1 hcur.out.2.2.1 hm1 hcur.out.2.2.2).use ?_; rintro v w2 ⟨rfl, hD⟩; obtain ⟨j1, j2, j3⟩ := hD.rules; simp only [World.size_alloc, World.size_drew] at j3; have q1 : ¬ w1.heap.size = g := (by omega); have hD1 := Lib.hid hD; clear hD))
  refine bodyPost_ret (v := .tuple #[(lookP l n).val, .bool true]) (by simp [results, Try.results12, go_sem, Pk.val, *]) rfl ?_
  refine ⟨rfl, ?_⟩
  have hD := hD1.out
  rw [her.out] at hD
  rw [← hel.out] at hD ⊢
  have hT := net_del hh.out (hu0' _ hu1.out _) hD (by rw [hel.out, hmh.out]; omega)
  exact (((hT.set (Nat.le_refl _) (Nat.ne_of_gt hbl) (own_ne q0) _).set (Nat.le_refl _) (Nat.ne_of_gt hbl) (own_ne q0) _).set (Nat.le_refl _) (Nat.ne_of_gt hbl) (own_ne q0) _).step
theorem take_none (b : Nat) (v : Value) (nd rm : Int) (l : List Pk) (w : World) (h : NetIs 55 37 w b v nd rm l) (hl : l.length ≤ 1000) (i : Int) (hb : lookB l i = false) :
    Calls Try.prog 12 #[.pointer (some ⟨b, 0, none⟩), .int .i64 i] w (Rets fun r w' => r = .tuple #[(lookP l i).val, .bool false] ∧ Upd0 w w') := by
  have hh := Lib.hid h
  have hbh := Lib.hid hb
  clear h hb
  go_enter Try.func12, Try.ntmps12
  go_wp2_with (first
    | (with_reducible refine wp_serial (by kernel_rfl) (by kernel_rfl) (by (repeat (first | (with_reducible apply NoBad.then) | (with_reducible apply NoBad.inBlock) | (with_reducible exact NoBad.rets))); done) ?_)
    | (go_at_call 19; refine (look_any _ _ _ _ _ _ (net_ext hh.out (by (repeat (first | exact Ext.refl _ | assumption | apply Ext.drew | apply Ext.alloc)); done)) hl _).use ?_; rintro v w1 ⟨rfl, hu⟩; rw [hbh.out]; obtain ⟨k1, k2, k3⟩ := hu.rules; simp only [World.size_alloc, World.size_drew] at k1 k2 k3; have kr : w.heap.size < w1.heap.size := (by omega); have hu1 := Lib.hid hu; clear hu k3))
  refine bodyPost_ret (v := .tuple #[(lookP l i).val, .bool false]) (by simp [results, Try.results12, go_sem, Pk.val, *]) rfl ?_
  refine ⟨rfl, ?_⟩
  have hu : Upd0 w w1 := Upd.trans (show Upd0 w _ from (by (repeat (first | exact Upd.refl _ _ | assumption | apply Upd.drew | apply Upd.alloc | (refine Upd.setCell ?_ (fun h => absurd h (by first | exact Nat.lt_irrefl _ | (simp only []; omega))) _))); done)) hu1.out (fun _ _ h => h)
  (repeat (first | exact Upd.refl _ _ | assumption | apply Upd.drew | apply Upd.alloc | (refine Upd.setCell ?_ (fun h => absurd h (by first | exact Nat.lt_irrefl _ | (simp only []; omega))) _)))
theorem take_nil (w : World) (i : Int) :
    Calls Try.prog 12 #[.pointer none, .int .i64 i] w (Rets fun r w' => r = .tuple #[Pk.val ⟨0, 0, .empty⟩, .bool false] ∧ Upd0 w w') := by
  go_enter Try.func12, Try.ntmps12
  go_wp2_with (first
    | (with_reducible refine wp_serial (by kernel_rfl) (by kernel_rfl) (by (repeat (first | (with_reducible apply NoBad.then) | (with_reducible apply NoBad.inBlock) | (with_reducible exact NoBad.rets))); done) ?_)
    | (go_at_call 19; refine (look_nil _ _).use ?_; rintro v w1 ⟨rfl, hu⟩; obtain ⟨k1, k2, k3⟩ := hu.rules; simp only [World.size_alloc, World.size_drew] at k1 k2 k3; have kr : w.heap.size < w1.heap.size := (by omega); have hu1 := Lib.hid hu; clear hu k3))
  refine bodyPost_ret (v := .tuple #[Pk.val ⟨0, 0, .empty⟩, .bool false]) (by simp [results, Try.results12, go_sem, Pk.val, *]; done) rfl ?_
  refine ⟨rfl, ?_⟩
  have hu : Upd0 w w1 := Upd.trans (show Upd0 w _ from (by (repeat (first | exact Upd.refl _ _ | assumption | apply Upd.drew | apply Upd.alloc | (refine Upd.setCell ?_ (fun h => absurd h (by first | exact Nat.lt_irrefl _ | (simp only []; omega))) _))); done)) hu1.out (fun _ _ h => h)
  (repeat (first | exact Upd.refl _ _ | assumption | apply Upd.drew | apply Upd.alloc | (refine Upd.setCell ?_ (fun h => absurd h (by first | exact Nat.lt_irrefl _ | (simp only []; omega))) _)))
end Go.Proofs.Ytfhaehkofeiobaa
