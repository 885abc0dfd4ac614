/-
  The document's Copy of a message.
-/
import Derived.Test.YtijmbpokglohbaaKh
namespace Go.Proofs.Ytijmbpokglohbaa
open Go.RowKit
set_option linter.unusedSimpArgs false
set_option linter.unusedVariables false
theorem Upd.then0 {S : Nat → Prop} {a w w' : World} (h : Upd S a w) (k : Upd0 w w') : Upd S a w' := Upd.trans h k (fun _ _ h => h.elim)
theorem run_app_nils {P : Program} {W : World} {c : Nat} (t ty e : TypeId) (i : TypeInfo) (ht : P.underlying t = some (.slice e)) (hi : P.info? e = some i) :
    (Builtin.append_ #[t, t] ty #[.slice none 0 0, .slice none 0 c]).run P W = .ok (.slice none 0 0) W := by
  simp [Builtin.append_, run_underlying ht, sizeOf, typeInfo, hi, Builtin.lenOf, Builtin.firstCells]
theorem wpList_copyR {W : World} {ops : Array Oper} {rest : List Oper} {o : Oper} {a : Act} {Q : Exit → Act → World → Prop} (hgd : o.guard = none) (x : Operand)
    (ho : o.op = .call { callee := .builtin .append, args := #[.const (.slice none 0 0), x], argTypes := #[23, 23] })
    (ao : Option Addr) (cap : Nat) (xs : List Rc) (hx : a.eval x = .slice ao xs.length cap) (hR : RsR W ao xs) (hl : xs.length ≤ 5000)
    (h : ∀ ao' cap' W', RsR W' ao' xs → Upd0 W W' → (∀ g o, ao' = some ⟨g, o, none⟩ → W.heap.size ≤ g) → wpList Try.prog ops Q rest (a.put o.dst (.slice ao' xs.length cap')) W') : wpList Try.prog ops Q (o :: rest) a W := by
  obtain ⟨i0, hi, hz0, hz1, hz2⟩ := info_parts info_r
  cases ao with
  | none =>
    have hx0 : xs = [] := by
      rcases hR with h | ⟨g, o, h, _⟩
      · exact h
      · cases h
    subst hx0
    refine wpList_plain hgd fun _ hK => ?_
    have hr := run_app_nils (P := Try.prog) (W := W) (c := cap) 23 o.type 82 i0 Try.underlying23 hi
    have he : a.eval (.const (.slice none 0 0)) = .slice none 0 0 := rfl
    have hx' : a.eval x = .slice none 0 cap := hx
    unfold Oper.wp execOp
    simp only [ho, resolve, invoke, builtin, Sem.run_bind, Sem.run_pure, Result.andThen_ok, List.map_toArray, List.map_cons, List.map_nil, he, hx', hr]
    exact hK _ _ (h none 0 W (.inl rfl) (Upd.refl _ _) (fun g o e => by cases e))
  | some ad =>
    refine wpList_appA (P := Try.prog) (w := W) (Ext.refl _) hgd (.const (.slice none 0 0)) x 23 ho 82 i0 _ 4 48 Try.underlying23 hi hz0 hz1 hz2 rfl (by decide) (.slice none 0 0) 0 [] ⟨rfl, .inl ⟨rfl, rfl⟩⟩ rfl ad xs.length cap (xs.flatMap Rc.cells) hx (flat_len Rc.cells_len xs) (cells_r hR) (one_r xs) (by omega) (by omega) ?_
    intro ao' cap' W' h1 h2 h3
    rw [Nat.zero_add] at h1 h3 ⊢
    refine h ao' cap' W' (own_rsr (by simpa using h1) rfl) (h2.mono (fun k _ e => by simp [Value.ownBlock] at e)) (fun g o e => ?_)
    subst e
    rcases h3 g rfl with e | e
    · simp [Value.ownBlock] at e
    · exact e
theorem wpList_copyQ {W : World} {ops : Array Oper} {rest : List Oper} {o : Oper} {a : Act} {Q : Exit → Act → World → Prop} (hgd : o.guard = none) (x : Operand)
    (ho : o.op = .call { callee := .builtin .append, args := #[.const (.slice none 0 0), x], argTypes := #[22, 22] })
    (ao : Option Addr) (cap : Nat) (xs : List Qn) (hx : a.eval x = .slice ao xs.length cap) (hR : QsR W ao xs) (hl : xs.length ≤ 5000)
    (h : ∀ ao' cap' W', QsR W' ao' xs → Upd0 W W' → (∀ g o, ao' = some ⟨g, o, none⟩ → W.heap.size ≤ g) → wpList Try.prog ops Q rest (a.put o.dst (.slice ao' xs.length cap')) W') : wpList Try.prog ops Q (o :: rest) a W := by
  obtain ⟨i0, hi, hz0, hz1, hz2⟩ := info_parts info_q
  cases ao with
  | none =>
    have hx0 : xs = [] := by
      rcases hR with h | ⟨g, o, h, _⟩
      · exact h
      · cases h
    subst hx0
    refine wpList_plain hgd fun _ hK => ?_
    have hr := run_app_nils (P := Try.prog) (W := W) (c := cap) 22 o.type 31 i0 Try.underlying22 hi
    have he : a.eval (.const (.slice none 0 0)) = .slice none 0 0 := rfl
    have hx' : a.eval x = .slice none 0 cap := hx
    unfold Oper.wp execOp
    simp only [ho, resolve, invoke, builtin, Sem.run_bind, Sem.run_pure, Result.andThen_ok, List.map_toArray, List.map_cons, List.map_nil, he, hx', hr]
    exact hK _ _ (h none 0 W (.inl rfl) (Upd.refl _ _) (fun g o e => by cases e))
  | some ad =>
    refine wpList_appA (P := Try.prog) (w := W) (Ext.refl _) hgd (.const (.slice none 0 0)) x 22 ho 31 i0 _ 2 24 Try.underlying22 hi hz0 hz1 hz2 rfl (by decide) (.slice none 0 0) 0 [] ⟨rfl, .inl ⟨rfl, rfl⟩⟩ rfl ad xs.length cap (xs.flatMap Qn.cells) hx (flat_len Qn.cells_len xs) (cells_q hR) (one_q xs) (by omega) (by omega) ?_
    intro ao' cap' W' h1 h2 h3
    rw [Nat.zero_add] at h1 h3 ⊢
    refine h ao' cap' W' (own_qsr (by simpa using h1) rfl) (h2.mono (fun k _ e => by simp [Value.ownBlock] at e)) (fun g o e => ?_)
    subst e
    rcases h3 g rfl with e | e
    · simp [Value.ownBlock] at e
    · exact e
theorem m13_setC {w : World} {b : Nat} {a0 a1 a2 a3 a4 a5 a6 a7 a8 a9 aA aB aC : Value} {t : TypeId} (h : w.heap[b]? = some (.cells #[a0, a1, a2, a3, a4, a5, a6, a7, a8, a9, aA, aB, aC] t (0, 0))) (v0 v1 v2 v3 v4 v5 v6 v7 v8 v9 vA vB vC : Value) : (((((((((((((w.setCell ⟨b, 0, none⟩ v0).setCell ⟨b, 1, none⟩ v1).setCell ⟨b, 2, none⟩ v2).setCell ⟨b, 3, none⟩ v3).setCell ⟨b, 4, none⟩ v4).setCell ⟨b, 5, none⟩ v5).setCell ⟨b, 6, none⟩ v6).setCell ⟨b, 7, none⟩ v7).setCell ⟨b, 8, none⟩ v8).setCell ⟨b, 9, none⟩ v9).setCell ⟨b, 10, none⟩ vA).setCell ⟨b, 11, none⟩ vB).setCell ⟨b, 12, none⟩ vC).heap[b]? = some (.cells #[v0, v1, v2, v3, v4, v5, v6, v7, v8, v9, vA, vB, vC] t (0, 0)) := by
  have h0 := blk_set h 0 v0
  have h1 := blk_set h0 1 v1
  have h2 := blk_set h1 2 v2
  have h3 := blk_set h2 3 v3
  have h4 := blk_set h3 4 v4
  have h5 := blk_set h4 5 v5
  have h6 := blk_set h5 6 v6
  have h7 := blk_set h6 7 v7
  have h8 := blk_set h7 8 v8
  have h9 := blk_set h8 9 v9
  have hA := blk_set h9 10 vA
  have hB := blk_set hA 11 vB
  have hC := blk_set hB 12 vC
  simpa using hC
theorem upd13C (w : World) (b : Nat) (v0 v1 v2 v3 v4 v5 v6 v7 v8 v9 vA vB vC : Value) : Upd (fun k => k = b) w (((((((((((((w.setCell ⟨b, 0, none⟩ v0).setCell ⟨b, 1, none⟩ v1).setCell ⟨b, 2, none⟩ v2).setCell ⟨b, 3, none⟩ v3).setCell ⟨b, 4, none⟩ v4).setCell ⟨b, 5, none⟩ v5).setCell ⟨b, 6, none⟩ v6).setCell ⟨b, 7, none⟩ v7).setCell ⟨b, 8, none⟩ v8).setCell ⟨b, 9, none⟩ v9).setCell ⟨b, 10, none⟩ vA).setCell ⟨b, 11, none⟩ vB).setCell ⟨b, 12, none⟩ vC) := by
  have h0 := (Upd.refl (fun k => k = b) w).setCell (p := ⟨b, 0, none⟩) (fun _ => rfl) v0
  have h1 := h0.setCell (p := ⟨b, 1, none⟩) (fun _ => rfl) v1
  have h2 := h1.setCell (p := ⟨b, 2, none⟩) (fun _ => rfl) v2
  have h3 := h2.setCell (p := ⟨b, 3, none⟩) (fun _ => rfl) v3
  have h4 := h3.setCell (p := ⟨b, 4, none⟩) (fun _ => rfl) v4
  have h5 := h4.setCell (p := ⟨b, 5, none⟩) (fun _ => rfl) v5
  have h6 := h5.setCell (p := ⟨b, 6, none⟩) (fun _ => rfl) v6
  have h7 := h6.setCell (p := ⟨b, 7, none⟩) (fun _ => rfl) v7
  have h8 := h7.setCell (p := ⟨b, 8, none⟩) (fun _ => rfl) v8
  have h9 := h8.setCell (p := ⟨b, 9, none⟩) (fun _ => rfl) v9
  have hA := h9.setCell (p := ⟨b, 10, none⟩) (fun _ => rfl) vA
  have hB := hA.setCell (p := ⟨b, 11, none⟩) (fun _ => rfl) vB
  exact hB.setCell (p := ⟨b, 12, none⟩) (fun _ => rfl) vC
theorem res_msgC {fn : Func} {c : Tmp} (hfn : fn.results = #[.cell c 25]) {tmps : Array Value} {b : Nat} (ht : tmps.getD c undef = .pointer (some ⟨b, 0, none⟩)) {W : World} {a0 a1 a2 a3 a4 a5 a6 a7 a8 a9 aA aB aC : Value} (h : W.heap[b]? = some (.cells #[a0, a1, a2, a3, a4, a5, a6, a7, a8, a9, aA, aB, aC] 25 (0, 0))) :
    (results fn tmps).run Try.prog W = .ok (.agg #[a0, a1, a2, a3, a4, a5, a6, a7, a8, a9, aA, aB, aC]) W := by
  obtain ⟨h0, h1, h2, h3, h4, h5, h6, h7, h8, h9, hA, hB, hC⟩ := cell13w h
  have ht' : tmps[c]?.getD undef = .pointer (some ⟨b, 0, none⟩) := by rw [← Array.getD_eq_getD_getElem?]; exact ht
  simp [results, hfn, ht', go_sem, h0, h1, h2, h3, h4, h5, h6, h7, h8, h9, hA, hB, hC]
/-- the frame of a copy: the blocks behind the copy's own -/
theorem copy_end {w w1 w2 w3 w4 X : World} {B : Nat} (hB : B = w.heap.size) {m : Msg} {q a n x : Option Addr} {b1 b2 b3 b4 : Nat}
    (h1 : Upd0 w w1) (hz : w.heap.size + 3 ≤ w1.heap.size) {v8 v9 vA : Value} (h2 : Upd0 (w1.setCell ⟨B + 2, 8, none⟩ v8) w2) (h3 : Upd0 (w2.setCell ⟨B + 2, 9, none⟩ v9) w3) (h4 : Upd0 (w3.setCell ⟨B + 2, 10, none⟩ vA) w4) {vB : Value} (hX : Upd (fun k => k = B + 1) (w4.setCell ⟨B + 2, 11, none⟩ vB) X)
    (rq : QsR w1 q m.qs) (ra : RsR w2 a m.an) (rn : RsR w3 n m.ns) (rx : RsR w4 x m.ex) (fq : ∀ g o, q = some ⟨g, o, none⟩ → b1 ≤ g) (fa : ∀ g o, a = some ⟨g, o, none⟩ → b2 ≤ g) (fn : ∀ g o, n = some ⟨g, o, none⟩ → b3 ≤ g) (fx : ∀ g o, x = some ⟨g, o, none⟩ → b4 ≤ g) (k1 : w.heap.size + 3 ≤ b1) (k2 : w.heap.size + 3 ≤ b2) (k3 : w.heap.size + 3 ≤ b3) (k4 : w.heap.size + 3 ≤ b4) :
    MsR X m q a n x ∧ Upd0 w X ∧ ∀ g o, (q = some ⟨g, o, none⟩ ∨ a = some ⟨g, o, none⟩ ∨ n = some ⟨g, o, none⟩ ∨ x = some ⟨g, o, none⟩) → w.heap.size ≤ g := by
  subst hB
  let S : Nat → Prop := fun k => k = w.heap.size + 1 ∨ k = w.heap.size + 2
  have u4 : Upd S w4 X := Upd.trans (S := S) ((Upd.refl S w4).setCell (p := ⟨w.heap.size + 2, 11, none⟩) (fun _ => .inr rfl) vB) hX (fun _ _ h => .inl h)
  have u3 : Upd S w3 X := Upd.trans (S := S) (Upd.then0 ((Upd.refl S w3).setCell (p := ⟨w.heap.size + 2, 10, none⟩) (fun _ => .inr rfl) vA) h4) u4 (fun _ _ h => h)
  have u2 : Upd S w2 X := Upd.trans (S := S) (Upd.then0 ((Upd.refl S w2).setCell (p := ⟨w.heap.size + 2, 9, none⟩) (fun _ => .inr rfl) v9) h3) u3 (fun _ _ h => h)
  have u1 : Upd S w1 X := Upd.trans (S := S) (Upd.then0 ((Upd.refl S w1).setCell (p := ⟨w.heap.size + 2, 8, none⟩) (fun _ => .inr rfl) v8) h2) u2 (fun _ _ h => h)
  refine ⟨⟨rq.upB u1 (fun g o e hS => ?_), ra.upB u2 (fun g o e hS => ?_), rn.upB u3 (fun g o e hS => ?_), rx.upB u4 (fun g o e hS => ?_)⟩, Upd.trans (S := fun _ => False) h1 u1 (fun b hb e => by rcases e with e | e <;> omega), fun g o h => ?_⟩
  · have := fq g o e; rcases hS with h | h <;> omega
  · have := fa g o e; rcases hS with h | h <;> omega
  · have := fn g o e; rcases hS with h | h <;> omega
  · have := fx g o e; rcases hS with h | h <;> omega
  · rcases h with h | h | h | h
    · have := fq g o h; omega
    · have := fa g o h; omega
    · have := fn g o h; omega
    · have := fx g o h; omega
set_option maxRecDepth 100000 in
set_option maxHeartbeats 8000000 in
theorem copy_w (m : Msg) (q a n x : Option Addr) (cq ca cn cx : Nat) (w : World) (h : MsR w m q a n x) (hm : Mid m) :
    Calls Try.prog 25 #[m.val q a n x cq ca cn cx] w (Rets fun r w' => ∃ q' a' n' x' cq' ca' cn' cx', r = m.val q' a' n' x' cq' ca' cn' cx' ∧ MsR w' m q' a' n' x' ∧ Upd0 w w' ∧ ∀ g o, (q' = some ⟨g, o, none⟩ ∨ a' = some ⟨g, o, none⟩ ∨ n' = some ⟨g, o, none⟩ ∨ x' = some ⟨g, o, none⟩) → w.heap.size ≤ g) := by
  have hh := Lib.hid h
  have l1 := hm.qs.1
  have l2 := hm.an.1
  have l3 := hm.ns.1
  have l4 := hm.ex.1
  clear h hm
  obtain ⟨id, re, op, au, tr, wa, av, rc, qs, an, ns, ex, sz⟩ := m
  simp only [Msg.val] at l1 l2 l3 l4 ⊢
  go_enter Try.func25, Try.ntmps25
  go_wp2_with (first
    | (at_builtin; refine wpList_copyQ rfl (.tmp 6) rfl q cq qs rfl (hh.out.qs.up (by repeat first | with_reducible (first | exact Upd.refl _ _ | assumption | apply Upd.drew | apply Upd.alloc) | refine Upd0.tr ?_ (by with_reducible assumption) | refine Upd.setCell ?_ (fun h => absurd h (by first | exact Nat.lt_irrefl _ | (simp only []; omega))) _)) l1 ?_; intro q2 cq2 w1 hq2 hu1 hf1; have hq2h := Lib.hid hq2; have hf1h := Lib.hid hf1; clear hq2 hf1; have bka1 := Lib.hid (show w1.heap[w.heap.size]? = some (.cells #[.int .i64 id, .bool re, .int .i64 op, .bool au, .bool tr, .bool wa, .bool av, .int .i64 rc, .slice q qs.length cq, .slice a an.length ca, .slice n ns.length cn, .slice x ex.length cx, .int .i64 sz] 25 (0, 0)) from hu1.block (fun h => h) (blk_alloc (blk_alloc (alloc_last _ _ _ rfl)))); have bkb1 := Lib.hid (show w1.heap[w.heap.size + 1]? = some (.cells #[.int .i64 0, .bool false, .int .i64 0, .bool false, .bool false, .bool false, .bool false, .int .i64 0, .slice none 0 0, .slice none 0 0, .slice none 0 0, .slice none 0 0, .int .i64 0] 25 (0, 0)) from hu1.block (fun h => h) (blk_alloc (alloc_last _ _ _ (by simp)))); have bkc1 := Lib.hid (show w1.heap[w.heap.size + 2]? = some (.cells #[.int .i64 id, .bool re, .int .i64 op, .bool au, .bool tr, .bool wa, .bool av, .int .i64 rc, .slice q qs.length cq, .slice a an.length ca, .slice n ns.length cn, .slice x ex.length cx, .int .i64 sz] 25 (0, 0)) from hu1.block (fun h => h) (alloc_last _ _ _ (by simp))); obtain ⟨pa10, pa11, pa12, pa13, pa14, pa15, pa16, pa17, pa18, pa19, pa1A, pa1B, pa1C⟩ := cell13w bka1.out; have fra1 := fun i => blk_frz bka1.out i; obtain ⟨pc10, pc11, pc12, pc13, pc14, pc15, pc16, pc17, pc18, pc19, pc1A, pc1B, pc1C⟩ := cell13w bkc1.out; have frc1 := fun i => blk_frz bkc1.out i; have hlt1 := blk_lt bkc1.out)
    | (at_builtin; refine wpList_copyR rfl (.tmp 10) rfl a ca an rfl (hh.out.an.up (by repeat first | with_reducible (first | exact Upd.refl _ _ | assumption | apply Upd.drew | apply Upd.alloc) | refine Upd0.tr ?_ (by with_reducible assumption) | refine Upd.setCell ?_ (fun h => absurd h (by first | exact Nat.lt_irrefl _ | (simp only []; omega))) _)) l2 ?_; intro a2 ca2 w2 ha2 hu2 hf2; have ha2h := Lib.hid ha2; have hf2h := Lib.hid hf2; clear ha2 hf2; have bka2 := Lib.hid (show w2.heap[w.heap.size]? = some (.cells #[.int .i64 id, .bool re, .int .i64 op, .bool au, .bool tr, .bool wa, .bool av, .int .i64 rc, .slice q qs.length cq, .slice a an.length ca, .slice n ns.length cn, .slice x ex.length cx, .int .i64 sz] 25 (0, 0)) from hu2.block (fun h => h) ((blk_set_other (w := w1) (b := w.heap.size + 2) (n := w.heap.size) (by omega) 8 (.slice q2 qs.length cq2)).trans bka1.out)); have bkb2 := Lib.hid (show w2.heap[w.heap.size + 1]? = some (.cells #[.int .i64 0, .bool false, .int .i64 0, .bool false, .bool false, .bool false, .bool false, .int .i64 0, .slice none 0 0, .slice none 0 0, .slice none 0 0, .slice none 0 0, .int .i64 0] 25 (0, 0)) from hu2.block (fun h => h) ((blk_set_other (w := w1) (b := w.heap.size + 2) (n := w.heap.size + 1) (by omega) 8 (.slice q2 qs.length cq2)).trans bkb1.out)); have bkc2 := Lib.hid (show w2.heap[w.heap.size + 2]? = some (.cells #[.int .i64 id, .bool re, .int .i64 op, .bool au, .bool tr, .bool wa, .bool av, .int .i64 rc, .slice q2 qs.length cq2, .slice a an.length ca, .slice n ns.length cn, .slice x ex.length cx, .int .i64 sz] 25 (0, 0)) from hu2.block (fun h => h) (by have hq := blk_set bkc1.out 8 (.slice q2 qs.length cq2); simpa using hq)); obtain ⟨pa20, pa21, pa22, pa23, pa24, pa25, pa26, pa27, pa28, pa29, pa2A, pa2B, pa2C⟩ := cell13w bka2.out; have fra2 := fun i => blk_frz bka2.out i; obtain ⟨pc20, pc21, pc22, pc23, pc24, pc25, pc26, pc27, pc28, pc29, pc2A, pc2B, pc2C⟩ := cell13w bkc2.out; have frc2 := fun i => blk_frz bkc2.out i; have hlt2 := blk_lt bkc2.out)
    | (at_builtin; refine wpList_copyR rfl (.tmp 14) rfl n cn ns rfl (hh.out.ns.up (by repeat first | with_reducible (first | exact Upd.refl _ _ | assumption | apply Upd.drew | apply Upd.alloc) | refine Upd0.tr ?_ (by with_reducible assumption) | refine Upd.setCell ?_ (fun h => absurd h (by first | exact Nat.lt_irrefl _ | (simp only []; omega))) _)) l3 ?_; intro n2 cn2 w3 hn2 hu3 hf3; have hn2h := Lib.hid hn2; have hf3h := Lib.hid hf3; clear hn2 hf3; have bka3 := Lib.hid (show w3.heap[w.heap.size]? = some (.cells #[.int .i64 id, .bool re, .int .i64 op, .bool au, .bool tr, .bool wa, .bool av, .int .i64 rc, .slice q qs.length cq, .slice a an.length ca, .slice n ns.length cn, .slice x ex.length cx, .int .i64 sz] 25 (0, 0)) from hu3.block (fun h => h) ((blk_set_other (w := w2) (b := w.heap.size + 2) (n := w.heap.size) (by omega) 9 (.slice a2 an.length ca2)).trans bka2.out)); have bkb3 := Lib.hid (show w3.heap[w.heap.size + 1]? = some (.cells #[.int .i64 0, .bool false, .int .i64 0, .bool false, .bool false, .bool false, .bool false, .int .i64 0, .slice none 0 0, .slice none 0 0, .slice none 0 0, .slice none 0 0, .int .i64 0] 25 (0, 0)) from hu3.block (fun h => h) ((blk_set_other (w := w2) (b := w.heap.size + 2) (n := w.heap.size + 1) (by omega) 9 (.slice a2 an.length ca2)).trans bkb2.out)); have bkc3 := Lib.hid (show w3.heap[w.heap.size + 2]? = some (.cells #[.int .i64 id, .bool re, .int .i64 op, .bool au, .bool tr, .bool wa, .bool av, .int .i64 rc, .slice q2 qs.length cq2, .slice a2 an.length ca2, .slice n ns.length cn, .slice x ex.length cx, .int .i64 sz] 25 (0, 0)) from hu3.block (fun h => h) (by have hq := blk_set bkc2.out 9 (.slice a2 an.length ca2); simpa using hq)); obtain ⟨pa30, pa31, pa32, pa33, pa34, pa35, pa36, pa37, pa38, pa39, pa3A, pa3B, pa3C⟩ := cell13w bka3.out; have fra3 := fun i => blk_frz bka3.out i; obtain ⟨pc30, pc31, pc32, pc33, pc34, pc35, pc36, pc37, pc38, pc39, pc3A, pc3B, pc3C⟩ := cell13w bkc3.out; have frc3 := fun i => blk_frz bkc3.out i; have hlt3 := blk_lt bkc3.out)
    | (at_builtin; refine wpList_copyR rfl (.tmp 18) rfl x cx ex rfl (hh.out.ex.up (by repeat first | with_reducible (first | exact Upd.refl _ _ | assumption | apply Upd.drew | apply Upd.alloc) | refine Upd0.tr ?_ (by with_reducible assumption) | refine Upd.setCell ?_ (fun h => absurd h (by first | exact Nat.lt_irrefl _ | (simp only []; omega))) _)) l4 ?_; intro x2 cx2 w4 hx2 hu4 hf4; have hx2h := Lib.hid hx2; have hf4h := Lib.hid hf4; clear hx2 hf4; have bka4 := Lib.hid (show w4.heap[w.heap.size]? = some (.cells #[.int .i64 id, .bool re, .int .i64 op, .bool au, .bool tr, .bool wa, .bool av, .int .i64 rc, .slice q qs.length cq, .slice a an.length ca, .slice n ns.length cn, .slice x ex.length cx, .int .i64 sz] 25 (0, 0)) from hu4.block (fun h => h) ((blk_set_other (w := w3) (b := w.heap.size + 2) (n := w.heap.size) (by omega) 10 (.slice n2 ns.length cn2)).trans bka3.out)); have bkb4 := Lib.hid (show w4.heap[w.heap.size + 1]? = some (.cells #[.int .i64 0, .bool false, .int .i64 0, .bool false, .bool false, .bool false, .bool false, .int .i64 0, .slice none 0 0, .slice none 0 0, .slice none 0 0, .slice none 0 0, .int .i64 0] 25 (0, 0)) from hu4.block (fun h => h) ((blk_set_other (w := w3) (b := w.heap.size + 2) (n := w.heap.size + 1) (by omega) 10 (.slice n2 ns.length cn2)).trans bkb3.out)); have bkc4 := Lib.hid (show w4.heap[w.heap.size + 2]? = some (.cells #[.int .i64 id, .bool re, .int .i64 op, .bool au, .bool tr, .bool wa, .bool av, .int .i64 rc, .slice q2 qs.length cq2, .slice a2 an.length ca2, .slice n2 ns.length cn2, .slice x ex.length cx, .int .i64 sz] 25 (0, 0)) from hu4.block (fun h => h) (by have hq := blk_set bkc3.out 10 (.slice n2 ns.length cn2); simpa using hq)); obtain ⟨pa40, pa41, pa42, pa43, pa44, pa45, pa46, pa47, pa48, pa49, pa4A, pa4B, pa4C⟩ := cell13w bka4.out; have fra4 := fun i => blk_frz bka4.out i; obtain ⟨pb40, pb41, pb42, pb43, pb44, pb45, pb46, pb47, pb48, pb49, pb4A, pb4B, pb4C⟩ := cell13w bkb4.out; have frb4 := fun i => blk_frz bkb4.out i; obtain ⟨pc40, pc41, pc42, pc43, pc44, pc45, pc46, pc47, pc48, pc49, pc4A, pc4B, pc4C⟩ := cell13w bkc4.out; have frc4 := fun i => blk_frz bkc4.out i; have hlt4 := blk_lt bkc4.out)
    | (with_reducible refine wp_serial (by kernel_rfl) (by kernel_rfl) (by repeat with_reducible (first | apply NoBad.then | apply NoBad.inBlock | apply NoBad.jump | exact NoBad.rets)) ?_) | fail)
  have ew : w.heap.size + 1 ≠ w.heap.size + 2 := by omega
  have hz2 := m13_setC ((blk_set_other (w := w4) (b := w.heap.size + 2) (n := w.heap.size + 1) ew 11 (.slice x2 ex.length cx2)).trans bkb4.out) (.int .i64 id) (.bool re) (.int .i64 op) (.bool au) (.bool tr) (.bool wa) (.bool av) (.int .i64 rc) (.slice q2 qs.length cq2) (.slice a2 an.length ca2) (.slice n2 ns.length cn2) (.slice x2 ex.length cx2) (.int .i64 sz)
  have hk := copy_end (m := ⟨id, re, op, au, tr, wa, av, rc, qs, an, ns, ex, sz⟩) (B := w.heap.size) rfl (show Upd0 w w1 from (by repeat first | with_reducible (first | exact Upd.refl _ _ | assumption | apply Upd.drew | apply Upd.alloc) | refine Upd0.tr ?_ (by with_reducible assumption) | refine Upd.setCell ?_ (fun h => absurd h (by first | exact Nat.lt_irrefl _ | (simp only []; omega))) _)) (by omega) hu2 hu3 hu4 (upd13C (w4.setCell ⟨w.heap.size + 2, 11, none⟩ (.slice x2 ex.length cx2)) (w.heap.size + 1) (.int .i64 id) (.bool re) (.int .i64 op) (.bool au) (.bool tr) (.bool wa) (.bool av) (.int .i64 rc) (.slice q2 qs.length cq2) (.slice a2 an.length ca2) (.slice n2 ns.length cn2) (.slice x2 ex.length cx2) (.int .i64 sz)) hq2h.out ha2h.out hn2h.out hx2h.out hf1h.out hf2h.out hf3h.out hf4h.out (by simp) (by simp; omega) (by simp; omega) (by simp; omega)
  exact bodyPost_ret (v := .agg #[.int .i64 id, .bool re, .int .i64 op, .bool au, .bool tr, .bool wa, .bool av, .int .i64 rc, .slice q2 qs.length cq2, .slice a2 an.length ca2, .slice n2 ns.length cn2, .slice x2 ex.length cx2, .int .i64 sz]) (by exact res_msgC Try.results25 rfl hz2) rfl ⟨q2, a2, n2, x2, cq2, ca2, cn2, cx2, rfl, hk.1, hk.2.1, hk.2.2⟩
end Go.Proofs.Ytijmbpokglohbaa
