/-
  BailBeyond: the walk.
-/
import Derived.Test.YtijmbpokglohbaaBaX
import Derived.Test.YtijmbpokglohbaaCpO
import Derived.RegionTactic
import Derived.BigRegion
import Derived.Deep.CutRange
import Derived.Deep.CutBlock
namespace Go.Proofs.Ytijmbpokglohbaa
open Go.RowKit
set_option linter.unusedSimpArgs false
set_option linter.unusedVariables false
theorem run_app_none {P : Program} {W : World} {c : Nat} (t ty e : TypeId) (i : TypeInfo) (size : Nat) (ht : P.underlying t = some (.slice e)) (hi : P.info? e = some i) (v : Value) (n : Nat) (xs : List Value) (hown : W.ownsRow 0 e size v n xs) :
    (Builtin.append_ #[t, t] ty #[v, .slice none 0 c]).run P W = .ok v W := by
  rcases hown.2 with ⟨rfl, rfl⟩ | ⟨g, cap, cur, rfl, _, _, hnc, _⟩
  · simp [Builtin.append_, run_underlying ht, sizeOf, typeInfo, hi, Builtin.lenOf, Builtin.firstCells]
  · simp [Builtin.append_, run_underlying ht, sizeOf, typeInfo, hi, Builtin.lenOf, Builtin.firstCells, hnc, storeCells]
abbrev ORc (W : World) (ao : Option Addr) (cap : Nat) (xs : List Rc) : Prop := W.ownsRow 0 82 4 (.slice ao xs.length cap) xs.length (xs.flatMap Rc.cells)
/-- append of records that lie in memory to a slice that is owned -/
theorem wpList_appRR {W : World} {ops : Array Oper} {rest : List Oper} {o : Oper} {a : Act} {Q : Exit → Act → World → Prop} (hgd : o.guard = none) (s x : Operand)
    (ho : o.op = .call { callee := .builtin .append, args := #[s, x], argTypes := #[23, 23] })
    (bo : Option Addr) (cb : Nat) (xs : List Rc) (hown : ORc W bo cb xs) (hs : a.eval s = .slice bo xs.length cb)
    (ao : Option Addr) (cap : Nat) (ys : List Rc) (hx : a.eval x = .slice ao ys.length cap) (hR : RsR W ao ys) (hl : xs.length + ys.length ≤ 5000) (zs : List Rc) (hzs : xs ++ ys = zs)
    (h : ∀ ao' cap' W', ORc W' ao' cap' zs → Upd (fun k => (Value.slice bo xs.length cb).ownBlock = some k) W W' → (∀ g o, ao' = some ⟨g, o, none⟩ → (Value.slice bo xs.length cb).ownBlock = some g ∨ W.heap.size ≤ g) → wpList Try.prog ops Q rest (a.put o.dst (.slice ao' zs.length cap')) W') : wpList Try.prog ops Q (o :: rest) a W := by
  subst hzs
  obtain ⟨i0, hi, hz0, hz1, hz2⟩ := info_parts info_r
  cases ao with
  | none =>
    have hx0 : ys = [] := by
      rcases hR with h | ⟨g, o, h, _⟩
      · exact h
      · cases h
    subst hx0
    refine wpList_plain hgd fun _ hK => ?_
    have hr := run_app_none (P := Try.prog) (W := W) (c := cap) 23 o.type 82 i0 4 Try.underlying23 hi _ _ _ hown
    have hx' : a.eval x = .slice none 0 cap := hx
    unfold Oper.wp execOp
    simp only [ho, resolve, invoke, builtin, Sem.run_bind, Sem.run_pure, Result.andThen_ok, List.map_toArray, List.map_cons, List.map_nil, hs, hx', hr]
    have e : xs ++ ([] : List Rc) = xs := List.append_nil _
    have := h bo cb W (by rw [e]; exact hown) (Upd.refl _ _) (fun g o e' => .inl (by subst e'; simp [Value.ownBlock]))
    rw [e] at this
    exact hK _ _ this
  | some ad =>
    refine wpList_appA (P := Try.prog) (w := W) (Ext.refl _) hgd s x 23 ho 82 i0 _ 4 48 Try.underlying23 hi hz0 hz1 hz2 rfl (by decide) _ _ _ hown hs ad ys.length cap (ys.flatMap Rc.cells) hx (flat_len Rc.cells_len ys) (cells_r hR) (one_r ys) (by omega) (by omega) ?_
    intro ao' cap' W' h1 h2 h3
    have el : (xs ++ ys).length = xs.length + ys.length := List.length_append
    refine (show wpList Try.prog ops Q rest (a.put o.dst (.slice ao' (xs.length + ys.length) cap')) W' from ?_)
    rw [← el] at h1 h3 ⊢
    exact h ao' cap' W' (by unfold ORc; rw [List.flatMap_append]; exact h1) h2 (fun g o e => h3 g (by subst e; simp [Value.ownBlock]))
theorem ORc.nil (W : World) : ORc W none 0 [] := ⟨rfl, .inl ⟨rfl, rfl⟩⟩
theorem ORc.rsr {W : World} {ao : Option Addr} {cap : Nat} {xs : List Rc} (h : ORc W ao cap xs) : RsR W ao xs := own_rsr h rfl
theorem ORc.upd {S : Nat → Prop} {W W' : World} {ao : Option Addr} {cap : Nat} {xs : List Rc} (h : ORc W ao cap xs) (k : Upd S W W') (hS : ∀ g o, ao = some ⟨g, o, none⟩ → ¬ S g) : ORc W' ao cap xs := by
  refine ownsRow_upd h k (fun g hg => ?_)
  rcases h.2 with ⟨e1, _⟩ | ⟨g', cap', cur, e1, _⟩
  · injection e1 with e1; subst e1; simp [Value.ownBlock] at hg
  · injection e1 with e1 _ _; subst e1
    simp [Value.ownBlock] at hg
    exact hS g 0 (by rw [hg])
theorem ORc.lt {W : World} {ao : Option Addr} {cap : Nat} {xs : List Rc} (h : ORc W ao cap xs) {g o : Nat} (e : ao = some ⟨g, o, none⟩) : g < W.heap.size := ownsRow_lt h (by rw [e]; simp [Value.ownBlock])
theorem ob_iff {ao : Option Addr} {n c g : Nat} (h : (Value.slice ao n c).ownBlock = some g) : ∃ o s, ao = some ⟨g, o, s⟩ := by
  cases ao with
  | none => simp [Value.ownBlock] at h
  | some a => obtain ⟨b, o, s⟩ := a; simp [Value.ownBlock] at h; subst h; exact ⟨o, s, rfl⟩
theorem ORc.ob {W : World} {ao : Option Addr} {cap : Nat} {xs : List Rc} (h : ORc W ao cap xs) {g : Nat} (hg : (Value.slice ao xs.length cap).ownBlock = some g) : ao = some ⟨g, 0, none⟩ := by
  rcases h.2 with ⟨e1, _⟩ | ⟨g', cap', cur, e1, _⟩
  · injection e1 with e1; subst e1; simp [Value.ownBlock] at hg
  · injection e1 with e1 _ _; subst e1; simp [Value.ownBlock] at hg; rw [hg]
structure BW (W : World) (b3 b4 : Nat) (n : Bs) (k : Int) (mc : Array Value) : Prop where
  q : W.heap[b3]? = some (.cells #[.string ⟨n.toArray⟩, .int .i64 k] 31 (0, 0))
  m : W.heap[b4]? = some (.cells mc 25 (0, 0))
theorem BW.up {S : Nat → Prop} {W W' : World} {b3 b4 : Nat} {n : Bs} {k : Int} {mc : Array Value} (h : BW W b3 b4 n k mc) (u : Upd S W W') (h3 : ¬ S b3) (h4 : ¬ S b4) : BW W' b3 b4 n k mc := ⟨u.block h3 h.q, u.block h4 h.m⟩
theorem Upd.finB {w w3 W : World} {b : Nat} (h : Upd0 w w3) (hb : w.heap.size ≤ b) (k : Upd (fun g => b ≤ g) w3 W) : Upd0 w W := Upd.trans (S := fun _ => False) h k (fun g hg hs => by omega)
theorem bey_set {W : World} {ao : Option Addr} {cap : Nat} {xs : List Rc} {b i : Nat} {v : Value} (h : ORc W ao cap xs) (hf : ∀ g o, ao = some ⟨g, o, none⟩ → ¬ g = b) : ORc (W.setCell ⟨b, i, none⟩ v) ao cap xs :=
  h.upd ((Upd.refl (fun k => k = b) W).setCell (p := ⟨b, i, none⟩) (fun _ => rfl) v) hf
theorem bey_own {W : World} {ao : Option Addr} {cap : Nat} {xs : List Rc} {b i : Nat} {v : Value} (h : ORc W ao cap xs) (hf : ∀ g o, ao = some ⟨g, o, none⟩ → b + 1 ≤ g) : ORc (W.setCell ⟨b, i, none⟩ v) ao cap xs := bey_set h (fun g o e => by have := hf g o e; omega)
theorem bey_k6 {w5 w6 : World} {ao : Option Addr} {cap b i : Nat} {l : List Rc} {v : Value} (o5 : ORc w5 ao cap l) (hf : ∀ g o, ao = some ⟨g, o, none⟩ → b + 1 ≤ g) (hu : Upd (fun k => (Value.slice ao l.length cap).ownBlock = some k) (w5.setCell ⟨b, i, none⟩ v) w6) : Upd (fun k => b ≤ k) w5 w6 :=
  Upd.trans (S := fun k => b ≤ k) ((Upd.refl (fun k => b ≤ k) w5).setCell (p := ⟨b, i, none⟩) (fun _ => Nat.le_refl _) v) hu (fun n _ e => by have := hf n 0 (o5.ob e); omega)
theorem bey_f6 {w5 : World} {ao ao6 : Option Addr} {cap b i : Nat} {l : List Rc} {v : Value} (hb : b < w5.heap.size) (o5 : ORc w5 ao cap l) (hf : ∀ g o, ao = some ⟨g, o, none⟩ → b + 1 ≤ g) (hf6 : ∀ g o, ao6 = some ⟨g, o, none⟩ → (Value.slice ao l.length cap).ownBlock = some g ∨ (w5.setCell ⟨b, i, none⟩ v).heap.size ≤ g) : ∀ g o, ao6 = some ⟨g, o, none⟩ → b + 1 ≤ g := by
  intro g o e
  rcases hf6 g o e with h | h
  · exact hf g 0 (o5.ob h)
  · simp at h; omega
theorem bey_n6 {w5 : World} {ao : Option Addr} {cap b : Nat} {l : List Rc} (o5 : ORc w5 ao cap l) (hf : ∀ g o, ao = some ⟨g, o, none⟩ → b + 1 ≤ g) : ¬ (Value.slice ao l.length cap).ownBlock = some b := fun e => by have := hf b 0 (o5.ob e); omega
theorem bey_k46 {w4 w5 w6 : World} {b : Nat} (h : Upd0 w4 w5) (k : Upd (fun k => b ≤ k) w5 w6) : Upd (fun k => b ≤ k) w4 w6 := Upd.trans (h.mono (fun _ _ h => h.elim)) k (fun _ _ h => h)
theorem QsR.old {w w' : World} {ao : Option Addr} {xs : List Qn} (h : QsR w ao xs) (k : Upd (fun g => w.heap.size ≤ g) w w') : QsR w' ao xs := by
  rcases h with rfl | ⟨g, o, h1, h2, h3⟩
  · exact .inl rfl
  · exact QsR.upB (.inr ⟨g, o, h1, h2, h3⟩) k (fun g' o' e hS => by rw [h1] at e; injection e with e; injection e with e; omega)
theorem bey_k7 {w6 w7 : World} {ao : Option Addr} {cap b i : Nat} {l : List Rc} {v : Value} (o5 : ORc w6 ao cap l) (hu : Upd (fun k => (Value.slice ao l.length cap).ownBlock = some k) (w6.setCell ⟨b, i, none⟩ v) w7) : Upd (fun k => k = b ∨ ao = some ⟨k, 0, none⟩) w6 w7 :=
  Upd.trans (S := fun k => k = b ∨ ao = some ⟨k, 0, none⟩) ((Upd.refl (fun k => k = b ∨ ao = some ⟨k, 0, none⟩) w6).setCell (p := ⟨b, i, none⟩) (fun _ => .inl rfl) v) hu (fun n _ e => .inr (o5.ob e))
theorem bey_f7 {w6 : World} {ao ao7 : Option Addr} {cap b i : Nat} {l : List Rc} {v : Value} (o5 : ORc w6 ao cap l) (hf7 : ∀ g o, ao7 = some ⟨g, o, none⟩ → (Value.slice ao l.length cap).ownBlock = some g ∨ (w6.setCell ⟨b, i, none⟩ v).heap.size ≤ g) : ∀ g o, ao7 = some ⟨g, o, none⟩ → ao = some ⟨g, 0, none⟩ ∨ w6.heap.size ≤ g := by
  intro g o e
  rcases hf7 g o e with h | h
  · exact .inl (o5.ob h)
  · exact .inr (by simpa using h)
theorem few_25 {m : Msg} (h : fewB m = true) : m.an.length ≤ 25 ∧ m.ns.length ≤ 25 ∧ m.ex.length ≤ 25 := by
  simp only [fewB, shB, Bool.and_eq_true, decide_eq_true_eq] at h
  exact ⟨h.2.1.1, h.2.2.1.1, h.2.2.2.1⟩
theorem shB_25 {l : List Rc} (h : shB l = true) : l.length ≤ 25 := by
  simp only [shB, Bool.and_eq_true, decide_eq_true_eq] at h
  exact h.1
theorem rcsh_app {a b : List Rc} (ha : rcsh a) (hb : rcsh b) (h : (a ++ b).length ≤ 5000) : rcsh (a ++ b) := ⟨h, fun x hx => by rcases List.mem_append.1 hx with h | h; exact ha.2 x h; exact hb.2 x h⟩
set_option maxRecDepth 100000 in
set_option maxHeartbeats 16000000 in
theorem bailBeyond_walk (n : Bs) (k : Int) (m : Msg) (q a ns x : Option Addr) (cq ca cn cx : Nat) (z : Bs) (ll : Option Addr) (cl : Nat) (l : List Rc) (w : World) (h : MsR w m q a ns x) (hb : m.big) (hR : RsR w ll l) (hll : l.length ≤ maxLen) :
    Calls Try.prog 5 #[.agg #[.string ⟨n.toArray⟩, .int .i64 k, .int .i64 m.id, .bool m.re, .int .i64 m.op, .bool m.au, .bool m.tr, .bool m.wa, .bool m.av, .int .i64 m.rc, .slice q m.qs.length cq, .slice a m.an.length ca, .slice ns m.ns.length cn, .slice x m.ex.length cx, .int .i64 m.sz, .string ⟨z.toArray⟩, .slice ll l.length cl]] w (Rets fun r w' => r = .bool true ∧ Upd0 w w') := by
  have hF1 := Lib.hid (fun (w' : World) (u : Upd0 w w') => few_w m q a ns x cq ca cn cx w' (h.up u) hb)
  have hSh := Lib.hid (fun (w' : World) (u : Upd0 w w') => short_w ll cl l w' (hR.up u) hll)
  have hWi := Lib.hid (fun (w' : World) (u : Upd0 w w') (e : shB l = true) (l2 : ¬ (300 : Int) < z.length) => within_bw ll cl l z w' (hR.up u) (shB_mid e).1 (shB_mid e).2 (by omega))
  have hCo := Lib.hid (fun (w' : World) (u : Upd0 w w') (e : fewB m = true) => copy_o m q a ns x cq ca cn cx w' (h.up u) (few_mid e))
  have hJ := Lib.hid (fun (w' : World) (u : Upd0 w w') (e : fewB m = true) (l1 : ¬ (300 : Int) < n.length) (l2 : ¬ (300 : Int) < z.length) => judge_w n k m q a ns x cq ca cn cx z w' (h.up u) (by omega) (by omega) (few_rcsh e).1 (few_rcsh e).2.1)
  have hh := Lib.hid h
  have hRl := Lib.hid hR
  have hways := Lib.hid (show fewB m = false ∨ (fewB m = true ∧ (300 : Int) < n.length) ∨ (fewB m = true ∧ ¬ (300 : Int) < n.length ∧ (300 : Int) < z.length) ∨ (fewB m = true ∧ ¬ (300 : Int) < n.length ∧ ¬ (300 : Int) < z.length ∧ shB l = false) ∨ (fewB m = true ∧ ¬ (300 : Int) < n.length ∧ ¬ (300 : Int) < z.length ∧ shB l = true ∧ (0 : Int) < (witL l z).length) ∨ (fewB m = true ∧ ¬ (300 : Int) < n.length ∧ ¬ (300 : Int) < z.length ∧ shB l = true ∧ witL l z = []) by
    cases fewB m <;> cases shB l <;> by_cases h1 : (300 : Int) < n.length <;> by_cases h2 : (300 : Int) < z.length <;> (cases hw : witL l z <;> simp [h1, h2] <;> omega))
  clear h hb hR hll
  obtain ⟨id, re, op, au, tr, wa, av, rc, qs, an, nsl, ex, sz⟩ := m
  simp only [Msg.val] at hF1 hCo hJ ⊢
  go_enter Try.func5, Try.ntmps5
  go_upto_region 1 with (first | (with_reducible refine wp_serial (by kernel_rfl) (by kernel_rfl) (by repeat with_reducible (first | apply NoBad.then | apply NoBad.inBlock | apply NoBad.jump | exact NoBad.rets)) ?_) | fail)
  go_cut [3, 4, 5, 6] from 12 (fun v3 v4 v5 v6 wx => ∃ b3 b4 : Nat, v3 = .pointer (some ⟨b3, 0, none⟩) ∧ v4 = .pointer (some ⟨b4, 0, none⟩) ∧ v5 = .string ⟨z.toArray⟩ ∧ v6 = .slice ll l.length cl ∧ Upd0 w wx ∧ b3 < wx.heap.size ∧ b4 < wx.heap.size ∧ w.heap.size < b3 ∧ w.heap.size < b4 ∧ Hid (BW wx b3 b4 n k #[.int .i64 id, .bool re, .int .i64 op, .bool au, .bool tr, .bool wa, .bool av, .int .i64 rc, .slice q qs.length cq, .slice a an.length ca, .slice ns nsl.length cn, .slice x ex.length cx, .int .i64 sz]))
  case first =>
    go_region
    · rename_i hK
      refine hK _ _ ?_
      go_meet
      exact ⟨w.heap.size + 1, w.heap.size + 1 + 1, rfl, rfl, rfl, rfl, (by repeat first | with_reducible (first | exact Upd.refl _ _ | assumption | apply Upd.drew | apply Upd.alloc) | refine Upd0.tr ?_ (by with_reducible assumption) | refine Upd.setCell ?_ (fun h => absurd h (by first | exact Nat.lt_irrefl _ | (simp only []; omega))) _), (by simp <;> omega), (by simp <;> omega), by omega, by omega, Lib.hid ⟨blk_alloc (alloc_last _ _ _ (by simp)), alloc_last _ _ _ (by simp)⟩⟩
    · rename_i hK
      refine hK _ _ ?_
      go_meet
      exact ⟨w.heap.size + 1 + 1, w.heap.size + 1, rfl, rfl, rfl, rfl, (by repeat first | with_reducible (first | exact Upd.refl _ _ | assumption | apply Upd.drew | apply Upd.alloc) | refine Upd0.tr ?_ (by with_reducible assumption) | refine Upd.setCell ?_ (fun h => absurd h (by first | exact Nat.lt_irrefl _ | (simp only []; omega))) _), (by simp <;> omega), (by simp <;> omega), by omega, by omega, Lib.hid ⟨alloc_last _ _ _ (by simp), blk_alloc (alloc_last _ _ _ (by simp))⟩⟩
  case rest =>
    obtain ⟨b3, b4, rfl, rfl, rfl, rfl, hU0, hb3, hb4, hlo3, hlo4, L0⟩ := hcut
    obtain ⟨q00, q01⟩ := cell2w L0.out.q
    obtain ⟨m00, m01, m02, m03, m04, m05, m06, m07, m08, m09, m0A, m0B, m0C⟩ := cell13w L0.out.m
    have hs0 := hU0.size
    have hways' := hways.out
    clear hways
    rcases hways' with e | ⟨e, l1⟩ | ⟨e, l1, l2⟩ | ⟨e, l1, l2, e2⟩ | ⟨e, l1, l2, e2, e3⟩ | ⟨e, l1, l2, e2, e3⟩
    · rw [e] at hF1
      clear hCo hJ e
      go_wp2_with (first
        | (go_at_call 15; (with_reducible refine (hF1.out _ (by repeat first | with_reducible (first | exact Upd.refl _ _ | assumption | apply Upd.drew | apply Upd.alloc) | refine Upd0.tr ?_ (by with_reducible assumption) | refine Upd.setCell ?_ (fun h => absurd h (by first | exact Nat.lt_irrefl _ | (simp only []; omega))) _)).use ?_); rintro v w1 ⟨rfl, hu1⟩; have L1 := Lib.hid (L0.out.up (show Upd0 wc w1 from (by repeat first | with_reducible (first | exact Upd.refl _ _ | assumption | apply Upd.drew | apply Upd.alloc) | refine Upd0.tr ?_ (by with_reducible assumption) | refine Upd.setCell ?_ (fun h => absurd h (by first | exact Nat.lt_irrefl _ | (simp only []; omega))) _)) (fun h => h) (fun h => h)); obtain ⟨q10, q11⟩ := cell2w L1.out.q; obtain ⟨m10, m11, m12, m13, m14, m15, m16, m17, m18, m19, m1A, m1B, m1C⟩ := cell13w L1.out.m; have hl13 := blk_lt L1.out.q; have hl14 := blk_lt L1.out.m)
        | (go_at_call 16; (with_reducible refine (blive_w _).use ?_); rintro v wL ⟨rfl, huL⟩)
        | (with_reducible refine wp_serial (by kernel_rfl) (by kernel_rfl) (by repeat with_reducible (first | apply NoBad.then | apply NoBad.inBlock | apply NoBad.jump | exact NoBad.rets)) ?_) | fail)
      all_goals go_returns
      all_goals exact ⟨rfl, (by repeat first | with_reducible (first | exact Upd.refl _ _ | assumption | apply Upd.drew | apply Upd.alloc) | refine Upd0.tr ?_ (by with_reducible assumption) | refine Upd.setCell ?_ (fun h => absurd h (by first | exact Nat.lt_irrefl _ | (simp only []; omega))) _)⟩
    · rw [e] at hF1
      clear hCo hJ e
      go_wp2_with (first
        | (go_at_call 15; (with_reducible refine (hF1.out _ (by repeat first | with_reducible (first | exact Upd.refl _ _ | assumption | apply Upd.drew | apply Upd.alloc) | refine Upd0.tr ?_ (by with_reducible assumption) | refine Upd.setCell ?_ (fun h => absurd h (by first | exact Nat.lt_irrefl _ | (simp only []; omega))) _)).use ?_); rintro v w1 ⟨rfl, hu1⟩; have L1 := Lib.hid (L0.out.up (show Upd0 wc w1 from (by repeat first | with_reducible (first | exact Upd.refl _ _ | assumption | apply Upd.drew | apply Upd.alloc) | refine Upd0.tr ?_ (by with_reducible assumption) | refine Upd.setCell ?_ (fun h => absurd h (by first | exact Nat.lt_irrefl _ | (simp only []; omega))) _)) (fun h => h) (fun h => h)); obtain ⟨q10, q11⟩ := cell2w L1.out.q; obtain ⟨m10, m11, m12, m13, m14, m15, m16, m17, m18, m19, m1A, m1B, m1C⟩ := cell13w L1.out.m; have hl13 := blk_lt L1.out.q; have hl14 := blk_lt L1.out.m)
        | (go_at_call 16; (with_reducible refine (blive_w _).use ?_); rintro v wL ⟨rfl, huL⟩)
        | (with_reducible refine wp_serial (by kernel_rfl) (by kernel_rfl) (by repeat with_reducible (first | apply NoBad.then | apply NoBad.inBlock | apply NoBad.jump | exact NoBad.rets)) ?_) | fail)
      all_goals go_returns
      all_goals exact ⟨rfl, (by repeat first | with_reducible (first | exact Upd.refl _ _ | assumption | apply Upd.drew | apply Upd.alloc) | refine Upd0.tr ?_ (by with_reducible assumption) | refine Upd.setCell ?_ (fun h => absurd h (by first | exact Nat.lt_irrefl _ | (simp only []; omega))) _)⟩
    · rw [e] at hF1
      clear hCo hJ e
      go_wp2_with (first
        | (go_at_call 15; (with_reducible refine (hF1.out _ (by repeat first | with_reducible (first | exact Upd.refl _ _ | assumption | apply Upd.drew | apply Upd.alloc) | refine Upd0.tr ?_ (by with_reducible assumption) | refine Upd.setCell ?_ (fun h => absurd h (by first | exact Nat.lt_irrefl _ | (simp only []; omega))) _)).use ?_); rintro v w1 ⟨rfl, hu1⟩; have L1 := Lib.hid (L0.out.up (show Upd0 wc w1 from (by repeat first | with_reducible (first | exact Upd.refl _ _ | assumption | apply Upd.drew | apply Upd.alloc) | refine Upd0.tr ?_ (by with_reducible assumption) | refine Upd.setCell ?_ (fun h => absurd h (by first | exact Nat.lt_irrefl _ | (simp only []; omega))) _)) (fun h => h) (fun h => h)); obtain ⟨q10, q11⟩ := cell2w L1.out.q; obtain ⟨m10, m11, m12, m13, m14, m15, m16, m17, m18, m19, m1A, m1B, m1C⟩ := cell13w L1.out.m; have hl13 := blk_lt L1.out.q; have hl14 := blk_lt L1.out.m)
        | (go_at_call 16; (with_reducible refine (blive_w _).use ?_); rintro v wL ⟨rfl, huL⟩)
        | (with_reducible refine wp_serial (by kernel_rfl) (by kernel_rfl) (by repeat with_reducible (first | apply NoBad.then | apply NoBad.inBlock | apply NoBad.jump | exact NoBad.rets)) ?_) | fail)
      all_goals go_returns
      all_goals exact ⟨rfl, (by repeat first | with_reducible (first | exact Upd.refl _ _ | assumption | apply Upd.drew | apply Upd.alloc) | refine Upd0.tr ?_ (by with_reducible assumption) | refine Upd.setCell ?_ (fun h => absurd h (by first | exact Nat.lt_irrefl _ | (simp only []; omega))) _)⟩
    · rw [e] at hF1; rw [e2] at hSh
      clear hCo hJ e e2
      go_wp2_with (first
        | (go_at_call 15; (with_reducible refine (hF1.out _ (by repeat first | with_reducible (first | exact Upd.refl _ _ | assumption | apply Upd.drew | apply Upd.alloc) | refine Upd0.tr ?_ (by with_reducible assumption) | refine Upd.setCell ?_ (fun h => absurd h (by first | exact Nat.lt_irrefl _ | (simp only []; omega))) _)).use ?_); rintro v w1 ⟨rfl, hu1⟩; have L1 := Lib.hid (L0.out.up (show Upd0 wc w1 from (by repeat first | with_reducible (first | exact Upd.refl _ _ | assumption | apply Upd.drew | apply Upd.alloc) | refine Upd0.tr ?_ (by with_reducible assumption) | refine Upd.setCell ?_ (fun h => absurd h (by first | exact Nat.lt_irrefl _ | (simp only []; omega))) _)) (fun h => h) (fun h => h)); obtain ⟨q10, q11⟩ := cell2w L1.out.q; obtain ⟨m10, m11, m12, m13, m14, m15, m16, m17, m18, m19, m1A, m1B, m1C⟩ := cell13w L1.out.m; have hl13 := blk_lt L1.out.q; have hl14 := blk_lt L1.out.m)
        | (go_at_call 24; (with_reducible refine (hSh.out _ (by repeat first | with_reducible (first | exact Upd.refl _ _ | assumption | apply Upd.drew | apply Upd.alloc) | refine Upd0.tr ?_ (by with_reducible assumption) | refine Upd.setCell ?_ (fun h => absurd h (by first | exact Nat.lt_irrefl _ | (simp only []; omega))) _)).use ?_); rintro v w2 ⟨rfl, hu2⟩; have L2 := Lib.hid (L1.out.up (show Upd0 w1 w2 from (by repeat first | with_reducible (first | exact Upd.refl _ _ | assumption | apply Upd.drew | apply Upd.alloc) | refine Upd0.tr ?_ (by with_reducible assumption) | refine Upd.setCell ?_ (fun h => absurd h (by first | exact Nat.lt_irrefl _ | (simp only []; omega))) _)) (fun h => h) (fun h => h)); obtain ⟨q20, q21⟩ := cell2w L2.out.q; obtain ⟨m20, m21, m22, m23, m24, m25, m26, m27, m28, m29, m2A, m2B, m2C⟩ := cell13w L2.out.m; have hl23 := blk_lt L2.out.q; have hl24 := blk_lt L2.out.m)
        | (go_at_call 16; (with_reducible refine (blive_w _).use ?_); rintro v wL ⟨rfl, huL⟩)
        | (with_reducible refine wp_serial (by kernel_rfl) (by kernel_rfl) (by repeat with_reducible (first | apply NoBad.then | apply NoBad.inBlock | apply NoBad.jump | exact NoBad.rets)) ?_) | fail)
      all_goals go_returns
      all_goals exact ⟨rfl, (by repeat first | with_reducible (first | exact Upd.refl _ _ | assumption | apply Upd.drew | apply Upd.alloc) | refine Upd0.tr ?_ (by with_reducible assumption) | refine Upd.setCell ?_ (fun h => absurd h (by first | exact Nat.lt_irrefl _ | (simp only []; omega))) _)⟩
    · rw [e] at hF1; have e2h := Lib.hid e2; have l2h := Lib.hid l2; rw [e2] at hSh
      clear hCo hJ e e2
      go_wp2_with (first
        | (go_at_call 15; (with_reducible refine (hF1.out _ (by repeat first | with_reducible (first | exact Upd.refl _ _ | assumption | apply Upd.drew | apply Upd.alloc) | refine Upd0.tr ?_ (by with_reducible assumption) | refine Upd.setCell ?_ (fun h => absurd h (by first | exact Nat.lt_irrefl _ | (simp only []; omega))) _)).use ?_); rintro v w1 ⟨rfl, hu1⟩; have L1 := Lib.hid (L0.out.up (show Upd0 wc w1 from (by repeat first | with_reducible (first | exact Upd.refl _ _ | assumption | apply Upd.drew | apply Upd.alloc) | refine Upd0.tr ?_ (by with_reducible assumption) | refine Upd.setCell ?_ (fun h => absurd h (by first | exact Nat.lt_irrefl _ | (simp only []; omega))) _)) (fun h => h) (fun h => h)); obtain ⟨q10, q11⟩ := cell2w L1.out.q; obtain ⟨m10, m11, m12, m13, m14, m15, m16, m17, m18, m19, m1A, m1B, m1C⟩ := cell13w L1.out.m; have hl13 := blk_lt L1.out.q; have hl14 := blk_lt L1.out.m)
        | (go_at_call 24; (with_reducible refine (hSh.out _ (by repeat first | with_reducible (first | exact Upd.refl _ _ | assumption | apply Upd.drew | apply Upd.alloc) | refine Upd0.tr ?_ (by with_reducible assumption) | refine Upd.setCell ?_ (fun h => absurd h (by first | exact Nat.lt_irrefl _ | (simp only []; omega))) _)).use ?_); rintro v w2 ⟨rfl, hu2⟩; have L2 := Lib.hid (L1.out.up (show Upd0 w1 w2 from (by repeat first | with_reducible (first | exact Upd.refl _ _ | assumption | apply Upd.drew | apply Upd.alloc) | refine Upd0.tr ?_ (by with_reducible assumption) | refine Upd.setCell ?_ (fun h => absurd h (by first | exact Nat.lt_irrefl _ | (simp only []; omega))) _)) (fun h => h) (fun h => h)); obtain ⟨q20, q21⟩ := cell2w L2.out.q; obtain ⟨m20, m21, m22, m23, m24, m25, m26, m27, m28, m29, m2A, m2B, m2C⟩ := cell13w L2.out.m; have hl23 := blk_lt L2.out.q; have hl24 := blk_lt L2.out.m)
        | (go_at_call 22; (with_reducible refine (hWi.out _ (by repeat first | with_reducible (first | exact Upd.refl _ _ | assumption | apply Upd.drew | apply Upd.alloc) | refine Upd0.tr ?_ (by with_reducible assumption) | refine Upd.setCell ?_ (fun h => absurd h (by first | exact Nat.lt_irrefl _ | (simp only []; omega))) _) e2h.out l2h.out).use ?_); rintro v w3 ⟨a3, c3, rfl, hr3, hu3, hf3⟩; clear hr3 hf3; have L3 := Lib.hid (L2.out.up (show Upd0 w2 w3 from (by repeat first | with_reducible (first | exact Upd.refl _ _ | assumption | apply Upd.drew | apply Upd.alloc) | refine Upd0.tr ?_ (by with_reducible assumption) | refine Upd.setCell ?_ (fun h => absurd h (by first | exact Nat.lt_irrefl _ | (simp only []; omega))) _)) (fun h => h) (fun h => h)); obtain ⟨q30, q31⟩ := cell2w L3.out.q; obtain ⟨m30, m31, m32, m33, m34, m35, m36, m37, m38, m39, m3A, m3B, m3C⟩ := cell13w L3.out.m; have hl33 := blk_lt L3.out.q; have hl34 := blk_lt L3.out.m)
        | (go_at_call 16; (with_reducible refine (blive_w _).use ?_); rintro v wL ⟨rfl, huL⟩)
        | (with_reducible refine wp_serial (by kernel_rfl) (by kernel_rfl) (by repeat with_reducible (first | apply NoBad.then | apply NoBad.inBlock | apply NoBad.jump | exact NoBad.rets)) ?_) | fail)
      all_goals go_returns
      all_goals exact ⟨rfl, (by repeat first | with_reducible (first | exact Upd.refl _ _ | assumption | apply Upd.drew | apply Upd.alloc) | refine Upd0.tr ?_ (by with_reducible assumption) | refine Upd.setCell ?_ (fun h => absurd h (by first | exact Nat.lt_irrefl _ | (simp only []; omega))) _)⟩
    · have hb25 := few_25 e
      have hl25 := shB_25 e2
      have hA := (few_rcsh e).1
      have hN := (few_rcsh e).2.1
      have hLs := shB_mid e2
      simp only [] at hb25 hA hN
      obtain ⟨ba, bn, bx⟩ := hb25
      have eh := Lib.hid e
      have e2h := Lib.hid e2
      have l1h := Lib.hid l1
      have l2h := Lib.hid l2
      rw [e] at hF1
      rw [e2] at hSh
      rw [e3] at hWi
      simp only [List.length_nil] at hWi
      have hj2 := judge_beyond (n := n) (k := k) (tr := tr) (rc := rc) (an := an) (ns := nsl) e3
      obtain ⟨LA, hLA⟩ : ∃ LA, l ++ an = LA := ⟨_, rfl⟩
      obtain ⟨LN, hLN⟩ : ∃ LN, nsl ++ l = LN := ⟨_, rfl⟩
      obtain ⟨LX, hLX⟩ : ∃ LX, ex ++ l = LX := ⟨_, rfl⟩
      rw [hLA, hLN] at hj2
      have hJ2 := Lib.hid (fun (q' a' n' x' : Option Addr) (cq' ca' cn' cx' : Nat) (w' : World) (h : MsR w' ⟨id, re, op, au, tr, wa, av, rc, qs, LA, LN, LX, sz⟩ q' a' n' x') => judge_w n k ⟨id, re, op, au, tr, wa, av, rc, qs, LA, LN, LX, sz⟩ q' a' n' x' cq' ca' cn' cx' z w' h (by omega) (by omega) (by rw [← hLA]; exact rcsh_app hLs hA (by simp; omega)) (by rw [← hLN]; exact rcsh_app hN hLs (by simp; omega)))
      simp only [Msg.val] at hJ2
      rw [hj2] at hJ2
      have hLAh := Lib.hid hLA
      have hLNh := Lib.hid hLN
      have hLXh := Lib.hid hLX
      obtain ⟨⟨kd, nm⟩, hJr⟩ : ∃ p, judgeR n k tr rc an nsl z = p := ⟨_, rfl⟩
      rw [hJr] at hJ hJ2
      clear e e2 e3 l1 l2 hA hN hLs hj2 hLA hLN hLX hJr
      have tkA : True := trivial
      have tkB : True := trivial
      have tkC : True := trivial
      have tkJ : True := trivial
      go_wp2_with (first
        | (go_at_call 15; (with_reducible refine (hF1.out _ (by repeat first | with_reducible (first | exact Upd.refl _ _ | assumption | apply Upd.drew | apply Upd.alloc) | refine Upd0.tr ?_ (by with_reducible assumption) | refine Upd.setCell ?_ (fun h => absurd h (by first | exact Nat.lt_irrefl _ | (simp only []; omega))) _)).use ?_); rintro v w1 ⟨rfl, hu1⟩; have L1 := Lib.hid (L0.out.up (show Upd0 wc w1 from (by repeat first | with_reducible (first | exact Upd.refl _ _ | assumption | apply Upd.drew | apply Upd.alloc) | refine Upd0.tr ?_ (by with_reducible assumption) | refine Upd.setCell ?_ (fun h => absurd h (by first | exact Nat.lt_irrefl _ | (simp only []; omega))) _)) (fun h => h) (fun h => h)); obtain ⟨q10, q11⟩ := cell2w L1.out.q; obtain ⟨m10, m11, m12, m13, m14, m15, m16, m17, m18, m19, m1A, m1B, m1C⟩ := cell13w L1.out.m; have hl13 := blk_lt L1.out.q; have hl14 := blk_lt L1.out.m)
        | (go_at_call 24; (with_reducible refine (hSh.out _ (by repeat first | with_reducible (first | exact Upd.refl _ _ | assumption | apply Upd.drew | apply Upd.alloc) | refine Upd0.tr ?_ (by with_reducible assumption) | refine Upd.setCell ?_ (fun h => absurd h (by first | exact Nat.lt_irrefl _ | (simp only []; omega))) _)).use ?_); rintro v w2 ⟨rfl, hu2⟩; have L2 := Lib.hid (L1.out.up (show Upd0 w1 w2 from (by repeat first | with_reducible (first | exact Upd.refl _ _ | assumption | apply Upd.drew | apply Upd.alloc) | refine Upd0.tr ?_ (by with_reducible assumption) | refine Upd.setCell ?_ (fun h => absurd h (by first | exact Nat.lt_irrefl _ | (simp only []; omega))) _)) (fun h => h) (fun h => h)); obtain ⟨q20, q21⟩ := cell2w L2.out.q; obtain ⟨m20, m21, m22, m23, m24, m25, m26, m27, m28, m29, m2A, m2B, m2C⟩ := cell13w L2.out.m; have hl23 := blk_lt L2.out.q; have hl24 := blk_lt L2.out.m)
        | (go_at_call 22; (with_reducible refine (hWi.out _ (by repeat first | with_reducible (first | exact Upd.refl _ _ | assumption | apply Upd.drew | apply Upd.alloc) | refine Upd0.tr ?_ (by with_reducible assumption) | refine Upd.setCell ?_ (fun h => absurd h (by first | exact Nat.lt_irrefl _ | (simp only []; omega))) _) e2h.out l2h.out).use ?_); rintro v w3 ⟨a3, c3, rfl, hr3, hu3, hf3⟩; clear hr3 hf3; have L3 := Lib.hid (L2.out.up (show Upd0 w2 w3 from (by repeat first | with_reducible (first | exact Upd.refl _ _ | assumption | apply Upd.drew | apply Upd.alloc) | refine Upd0.tr ?_ (by with_reducible assumption) | refine Upd.setCell ?_ (fun h => absurd h (by first | exact Nat.lt_irrefl _ | (simp only []; omega))) _)) (fun h => h) (fun h => h)); obtain ⟨q30, q31⟩ := cell2w L3.out.q; obtain ⟨m30, m31, m32, m33, m34, m35, m36, m37, m38, m39, m3A, m3B, m3C⟩ := cell13w L3.out.m; have hl33 := blk_lt L3.out.q; have hl34 := blk_lt L3.out.m)
        | (go_at_call 25; (with_reducible refine (hCo.out _ (by repeat first | with_reducible (first | exact Upd.refl _ _ | assumption | apply Upd.drew | apply Upd.alloc) | refine Upd0.tr ?_ (by with_reducible assumption) | refine Upd.setCell ?_ (fun h => absurd h (by first | exact Nat.lt_irrefl _ | (simp only []; omega))) _) eh.out).use ?_); rintro v w4 ⟨q', a', n', x', cq', ca', cn', cx', rfl, ⟨oq, oa, on, ox⟩, hr4, hu4, hfr, hdi, hdq⟩; have oqlt := Lib.hid (fun g o (e : q' = some ⟨g, o, none⟩) => (ownsRow_lt oq (g := g) (by rw [e]; simp [Value.ownBlock]) : g < w4.heap.size)); have hdqh := Lib.hid hdq; have on4 := Lib.hid (show ORc w4 n' cn' nsl from on); have ox4 := Lib.hid (show ORc w4 x' cx' ex from ox); have hq4 := Lib.hid hr4.qs; have hdih := Lib.hid hdi; have frq := Lib.hid (fun g o (e : q' = some ⟨g, o, none⟩) => hfr g o (.inl e)); have frn := Lib.hid (fun g o (e : n' = some ⟨g, o, none⟩) => hfr g o (.inr (.inr (.inl e)))); have frx := Lib.hid (fun g o (e : x' = some ⟨g, o, none⟩) => hfr g o (.inr (.inr (.inr e)))); clear oq oa on ox hr4 hdi hfr hdq; have hs34 : w3.heap.size ≤ w4.heap.size := (show Upd0 w3 w4 from (by repeat first | with_reducible (first | exact Upd.refl _ _ | assumption | apply Upd.drew | apply Upd.alloc) | refine Upd0.tr ?_ (by with_reducible assumption) | refine Upd.setCell ?_ (fun h => absurd h (by first | exact Nat.lt_irrefl _ | (simp only []; omega))) _)).size; have hs04 : w.heap.size ≤ w4.heap.size := (show Upd0 w w4 from (by repeat first | with_reducible (first | exact Upd.refl _ _ | assumption | apply Upd.drew | apply Upd.alloc) | refine Upd0.tr ?_ (by with_reducible assumption) | refine Upd.setCell ?_ (fun h => absurd h (by first | exact Nat.lt_irrefl _ | (simp only []; omega))) _)).size; have hs03 : w.heap.size ≤ w3.heap.size := (show Upd0 w w3 from (by repeat first | with_reducible (first | exact Upd.refl _ _ | assumption | apply Upd.drew | apply Upd.alloc) | refine Upd0.tr ?_ (by with_reducible assumption) | refine Upd.setCell ?_ (fun h => absurd h (by first | exact Nat.lt_irrefl _ | (simp only []; omega))) _)).size; have L4 := Lib.hid (L3.out.up (show Upd0 w3 w4 from (by repeat first | with_reducible (first | exact Upd.refl _ _ | assumption | apply Upd.drew | apply Upd.alloc) | refine Upd0.tr ?_ (by with_reducible assumption) | refine Upd.setCell ?_ (fun h => absurd h (by first | exact Nat.lt_irrefl _ | (simp only []; omega))) _)) (fun h => h) (fun h => h)); obtain ⟨q40, q41⟩ := cell2w L4.out.q; obtain ⟨m40, m41, m42, m43, m44, m45, m46, m47, m48, m49, m4A, m4B, m4C⟩ := cell13w L4.out.m; have hl43 := blk_lt L4.out.q; have hl44 := blk_lt L4.out.m)
        | (at_builtin; have _t := tkA; clear tkA _t; refine wpList_appRR rfl (.tmp 51) (.tmp 52) rfl none 0 [] (ORc.nil _) rfl ll cl l rfl (hRl.out.up (by repeat first | with_reducible (first | exact Upd.refl _ _ | assumption | apply Upd.drew | apply Upd.alloc) | refine Upd0.tr ?_ (by with_reducible assumption) | refine Upd.setCell ?_ (fun h => absurd h (by first | exact Nat.lt_irrefl _ | (simp only []; omega))) _)) (by simp; omega) l rfl ?_; intro ao5 cp5 w5 o5 hu5 hf5; have o5h := Lib.hid o5; have hu5' := hu5.mono (S' := fun _ => False) (fun k _ e => by simp [Value.ownBlock] at e); have hf5h := Lib.hid (show ∀ g o, ao5 = some ⟨g, o, none⟩ → w4.heap.size + 1 ≤ g from fun g o e => by (rcases hf5 g o e with h | h); (simp [Value.ownBlock] at h); (simpa using h)); clear o5 hu5 hf5; have L5 := Lib.hid (L4.out.up (show Upd0 w4 w5 from (by repeat first | with_reducible (first | exact Upd.refl _ _ | assumption | apply Upd.drew | apply Upd.alloc) | refine Upd0.tr ?_ (by with_reducible assumption) | refine Upd.setCell ?_ (fun h => absurd h (by first | exact Nat.lt_irrefl _ | (simp only []; omega))) _)) (fun h => h) (fun h => h)); obtain ⟨q50, q51⟩ := cell2w L5.out.q; obtain ⟨m50, m51, m52, m53, m54, m55, m56, m57, m58, m59, m5A, m5B, m5C⟩ := cell13w L5.out.m; have hl53 := blk_lt L5.out.q; have hl54 := blk_lt L5.out.m; have B5 := Lib.hid (show w5.heap[w4.heap.size]? = some (.cells #[.int .i64 id, .bool re, .int .i64 op, .bool au, .bool tr, .bool wa, .bool av, .int .i64 rc, .slice q' qs.length cq', .slice none 0 0, .slice n' nsl.length cn', .slice x' ex.length cx', .int .i64 sz] 25 (0, 0)) from hu5'.block (fun h => h) (alloc_last _ _ _ rfl)); obtain ⟨b50, b51, b52, b53, b54, b55, b56, b57, b58, b59, b5A, b5B, b5C⟩ := cell13w B5.out; have bf5 := fun i => blk_frz B5.out i; have hb5 := blk_lt B5.out; have hU45 : Upd0 w4 w5 := (by repeat first | with_reducible (first | exact Upd.refl _ _ | assumption | apply Upd.drew | apply Upd.alloc) | refine Upd0.tr ?_ (by with_reducible assumption) | refine Upd.setCell ?_ (fun h => absurd h (by first | exact Nat.lt_irrefl _ | (simp only []; omega))) _); have hU5 : Upd0 w w5 := (show Upd0 w w4 from (by repeat first | with_reducible (first | exact Upd.refl _ _ | assumption | apply Upd.drew | apply Upd.alloc) | refine Upd0.tr ?_ (by with_reducible assumption) | refine Upd.setCell ?_ (fun h => absurd h (by first | exact Nat.lt_irrefl _ | (simp only []; omega))) _)).tr hU45)
        | (at_builtin; have _t := tkB; clear tkB _t; refine wpList_appRR rfl (.tmp 56) (.tmp 58) rfl ao5 cp5 l (bey_own o5h.out hf5h.out) rfl a ca an rfl (hh.out.an.up (by repeat first | with_reducible (first | exact Upd.refl _ _ | assumption | apply Upd.drew | apply Upd.alloc) | refine Upd0.tr ?_ (by with_reducible assumption) | refine Upd.setCell ?_ (fun h => absurd h (by first | exact Nat.lt_irrefl _ | (simp only []; omega))) _)) (by omega) LA hLAh.out ?_; intro ao6 cp6 w6 o6 hu6 hf6; have o6h := Lib.hid o6; have K6 := bey_k6 o5h.out hf5h.out hu6; have hf6h := Lib.hid (bey_f6 hb5 o5h.out hf5h.out hf6); have hU6 : Upd0 w w6 := hU5.finB hs04 K6; have B6 := Lib.hid (show w6.heap[w4.heap.size]? = some (.cells #[.int .i64 id, .bool re, .int .i64 op, .bool au, .bool tr, .bool wa, .bool av, .int .i64 rc, .slice q' qs.length cq', .slice ao5 l.length cp5, .slice n' nsl.length cn', .slice x' ex.length cx', .int .i64 sz] 25 (0, 0)) from hu6.block (bey_n6 o5h.out hf5h.out) (by simpa using blk_set B5.out 9 (.slice ao5 l.length cp5))); obtain ⟨b60, b61, b62, b63, b64, b65, b66, b67, b68, b69, b6A, b6B, b6C⟩ := cell13w B6.out; have bf6 := fun i => blk_frz B6.out i; have hb6 := blk_lt B6.out; have K46 := bey_k46 hU45 K6; have on6 := Lib.hid (on4.out.upd K46 (fun g o e h => by have := on4.out.lt e; omega)); have ox6 := Lib.hid (ox4.out.upd K46 (fun g o e h => by have := ox4.out.lt e; omega)); have hq6 := Lib.hid (hq4.out.old K46); clear o6 hu6 hf6; have L6 := Lib.hid (L5.out.up K6 (by omega) (by omega)); obtain ⟨q60, q61⟩ := cell2w L6.out.q; obtain ⟨m60, m61, m62, m63, m64, m65, m66, m67, m68, m69, m6A, m6B, m6C⟩ := cell13w L6.out.m; have hl63 := blk_lt L6.out.q; have hl64 := blk_lt L6.out.m; have hs46 : w4.heap.size < w6.heap.size := hb6)
        | (at_builtin; have _t := tkC; clear tkC _t; refine wpList_appRR rfl (.tmp 62) (.tmp 63) rfl n' cn' nsl (bey_set on6.out (fun g o e => by have := on4.out.lt e; omega)) rfl ll cl l rfl (hRl.out.up (by repeat first | with_reducible (first | exact Upd.refl _ _ | assumption | apply Upd.drew | apply Upd.alloc) | refine Upd0.tr ?_ (by with_reducible assumption) | refine Upd.setCell ?_ (fun h => absurd h (by first | exact Nat.lt_irrefl _ | (simp only []; omega))) _)) (by omega) LN hLNh.out ?_; intro ao7 cp7 w7 o7 hu7 hf7; have o7h := Lib.hid o7; have K7 := bey_k7 on6.out hu7; have hU7 : Upd0 w w7 := Upd.finB hU6 hs03 (K7.mono (fun g _ h => by (rcases h with h | h); omega; exact frn.out g 0 h)); have B7 := Lib.hid (show w7.heap[w4.heap.size]? = some (.cells #[.int .i64 id, .bool re, .int .i64 op, .bool au, .bool tr, .bool wa, .bool av, .int .i64 rc, .slice q' qs.length cq', .slice ao6 LA.length cp6, .slice n' nsl.length cn', .slice x' ex.length cx', .int .i64 sz] 25 (0, 0)) from hu7.block (fun e => by have := on4.out.lt (on6.out.ob e); omega) (by simpa using blk_set B6.out 9 (.slice ao6 LA.length cp6))); obtain ⟨b70, b71, b72, b73, b74, b75, b76, b77, b78, b79, b7A, b7B, b7C⟩ := cell13w B7.out; have bf7 := fun i => blk_frz B7.out i; have hb7 := blk_lt B7.out; have o67 := Lib.hid (o6h.out.upd K7 (fun g o e h => by have h1 := hf6h.out g o e; (rcases h with h | h); omega; (have := on4.out.lt h; omega))); have ox7 := Lib.hid (ox6.out.upd K7 (fun g o e h => by (rcases h with h | h); (have := ox4.out.lt e; omega); (have := hdih.out g 0 g o (.inr h) e; omega))); have hq7 := Lib.hid (hq6.out.upB K7 (fun g o e h => by (rcases h with h | h); (have := oqlt.out g o e; omega); (have := hdqh.out g o g 0 e (.inl h); omega))); have hf7h := Lib.hid (bey_f7 on6.out hf7); clear o7 hu7 hf7; have L7 := Lib.hid (L6.out.up K7 (fun h => by (rcases h with h | h); omega; (have := frn.out _ 0 h; omega)) (fun h => by (rcases h with h | h); omega; (have := frn.out _ 0 h; omega))); obtain ⟨q70, q71⟩ := cell2w L7.out.q; obtain ⟨m70, m71, m72, m73, m74, m75, m76, m77, m78, m79, m7A, m7B, m7C⟩ := cell13w L7.out.m; have hl73 := blk_lt L7.out.q; have hl74 := blk_lt L7.out.m)
        | (at_builtin; refine wpList_appRR rfl (.tmp 67) (.tmp 68) rfl x' cx' ex (bey_set ox7.out (fun g o e => by have := ox4.out.lt e; omega)) rfl ll cl l rfl (hRl.out.up (by repeat first | with_reducible (first | exact Upd.refl _ _ | assumption | apply Upd.drew | apply Upd.alloc) | refine Upd0.tr ?_ (by with_reducible assumption) | refine Upd.setCell ?_ (fun h => absurd h (by first | exact Nat.lt_irrefl _ | (simp only []; omega))) _)) (by omega) LX hLXh.out ?_; intro ao8 cp8 w8 o8 hu8 hf8; have o8h := Lib.hid o8; have K8 := bey_k7 ox7.out hu8; have hU8 : Upd0 w w8 := Upd.finB hU7 hs03 (K8.mono (fun g _ h => by (rcases h with h | h); omega; exact frx.out g 0 h)); have B8 := Lib.hid (show w8.heap[w4.heap.size]? = some (.cells #[.int .i64 id, .bool re, .int .i64 op, .bool au, .bool tr, .bool wa, .bool av, .int .i64 rc, .slice q' qs.length cq', .slice ao6 LA.length cp6, .slice ao7 LN.length cp7, .slice x' ex.length cx', .int .i64 sz] 25 (0, 0)) from hu8.block (fun e => by have := ox4.out.lt (ox7.out.ob e); omega) (by simpa using blk_set B7.out 10 (.slice ao7 LN.length cp7))); obtain ⟨b80, b81, b82, b83, b84, b85, b86, b87, b88, b89, b8A, b8B, b8C⟩ := cell13w B8.out; have bf8 := fun i => blk_frz B8.out i; have hb8 := blk_lt B8.out; have o68 := Lib.hid (o67.out.upd K8 (fun g o e h => by have h1 := hf6h.out g o e; (rcases h with h | h); omega; (have := ox4.out.lt h; omega))); have o78 := Lib.hid (o7h.out.upd K8 (fun g o e h => by (rcases hf7h.out g o e with h1 | h1); ((rcases h with h | h); (have := on4.out.lt h1; omega); (have := hdih.out g 0 g 0 (.inr h1) h; omega)); ((rcases h with h | h); omega; (have := ox4.out.lt h; omega)))); have hq8 := Lib.hid (hq7.out.upB K8 (fun g o e h => by (rcases h with h | h); (have := oqlt.out g o e; omega); (have := hdqh.out g o g 0 e (.inr h); omega))); have hf8h := Lib.hid (bey_f7 ox7.out hf8); have hs78 : w7.heap.size ≤ w8.heap.size := K8.size; clear o8 hu8 hf8; have L8 := Lib.hid (L7.out.up K8 (fun h => by (rcases h with h | h); omega; (have := frx.out _ 0 h; omega)) (fun h => by (rcases h with h | h); omega; (have := frx.out _ 0 h; omega))); obtain ⟨q80, q81⟩ := cell2w L8.out.q; obtain ⟨m80, m81, m82, m83, m84, m85, m86, m87, m88, m89, m8A, m8B, m8C⟩ := cell13w L8.out.m; have hl83 := blk_lt L8.out.q; have hl84 := blk_lt L8.out.m)
        | (go_at_call 19; have _t := tkJ; clear tkJ _t; (refine (hJ.out _ (by repeat first | with_reducible (first | exact Upd.refl _ _ | assumption | apply Upd.drew | apply Upd.alloc) | refine Upd0.tr ?_ (by with_reducible assumption) | refine Upd.setCell ?_ (fun h => absurd h (by first | exact Nat.lt_irrefl _ | (simp only []; omega))) _) eh.out l1h.out l2h.out).use ?_); rintro v w9 ⟨rfl, hu9⟩; have kS := (Upd.refl (fun k => k = w4.heap.size) w8).setCell (p := ⟨w4.heap.size, 11, none⟩) (fun _ => rfl) (.slice ao8 LX.length cp8); have k89 := Upd.then0 kS hu9; have hU9 : Upd0 w w9 := (by repeat first | with_reducible (first | exact Upd.refl _ _ | assumption | apply Upd.drew | apply Upd.alloc) | refine Upd0.tr ?_ (by with_reducible assumption) | refine Upd.setCell ?_ (fun h => absurd h (by first | exact Nat.lt_irrefl _ | (simp only []; omega))) _); have B9 := Lib.hid (show w9.heap[w4.heap.size]? = some (.cells #[.int .i64 id, .bool re, .int .i64 op, .bool au, .bool tr, .bool wa, .bool av, .int .i64 rc, .slice q' qs.length cq', .slice ao6 LA.length cp6, .slice ao7 LN.length cp7, .slice ao8 LX.length cp8, .int .i64 sz] 25 (0, 0)) from hu9.block (fun h => h) (by simpa using blk_set B8.out 11 (.slice ao8 LX.length cp8))); obtain ⟨b90, b91, b92, b93, b94, b95, b96, b97, b98, b99, b9A, b9B, b9C⟩ := cell13w B9.out; have bf9 := fun i => blk_frz B9.out i; have hb9 := blk_lt B9.out; have M9 := Lib.hid (show MsR w9 ⟨id, re, op, au, tr, wa, av, rc, qs, LA, LN, LX, sz⟩ q' ao6 ao7 ao8 from ⟨hq8.out.upB k89 (fun g o e h => by have := oqlt.out g o e; omega), (o68.out.upd k89 (fun g o e h => by have := hf6h.out g o e; omega)).rsr, (o78.out.upd k89 (fun g o e h => by (rcases hf7h.out g o e with h1 | h1); (have := on4.out.lt h1; omega); omega)).rsr, (o8h.out.upd k89 (fun g o e h => by (rcases hf8h.out g o e with h1 | h1); (have := ox4.out.lt h1; omega); omega)).rsr⟩); clear kS; have L9 := Lib.hid (L8.out.up k89 (by omega) (by omega)); obtain ⟨q90, q91⟩ := cell2w L9.out.q; obtain ⟨m90, m91, m92, m93, m94, m95, m96, m97, m98, m99, m9A, m9B, m9C⟩ := cell13w L9.out.m; have hl93 := blk_lt L9.out.q; have hl94 := blk_lt L9.out.m)
        | (go_at_call 19; (refine (hJ2.out _ _ _ _ _ _ _ _ _ (M9.out.up (by repeat first | with_reducible (first | exact Upd.refl _ _ | assumption | apply Upd.drew | apply Upd.alloc) | refine Upd0.tr ?_ (by with_reducible assumption) | refine Upd.setCell ?_ (fun h => absurd h (by first | exact Nat.lt_irrefl _ | (simp only []; omega))) _))).use ?_); rintro v wA ⟨rfl, huA⟩)
        | (go_at_call 16; (with_reducible refine (blive_w _).use ?_); rintro v wL ⟨rfl, huL⟩)
        | (with_reducible refine wp_serial (by kernel_rfl) (by kernel_rfl) (by repeat with_reducible (first | apply NoBad.then | apply NoBad.inBlock | apply NoBad.jump | exact NoBad.rets)) ?_) | fail)
      all_goals go_returns
      all_goals exact ⟨rfl, (by repeat first | with_reducible (first | exact Upd.refl _ _ | assumption | apply Upd.drew | apply Upd.alloc) | refine Upd0.tr ?_ (by with_reducible assumption) | refine Upd.setCell ?_ (fun h => absurd h (by first | exact Nat.lt_irrefl _ | (simp only []; omega))) _)⟩
end Go.Proofs.Ytijmbpokglohbaa
