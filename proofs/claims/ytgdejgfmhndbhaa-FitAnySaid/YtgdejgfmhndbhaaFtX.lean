/-
  fit.Fit, where it may be fitted: the walk.
-/
import Derived.Test.YtgdejgfmhndbhaaFtW
import Derived.ScopeJumps
import Derived.WalkMore
namespace Go.Proofs.Ytgdejgfmhndbhaa
open Go.RowKit Go.Maps
set_option linter.unusedSimpArgs false
set_option linter.unusedVariables false
variable {B : Nat}
theorem m13_set {w : World} {b : Nat} {a0 a1 a2 a3 a4 a5 a6 a7 a8 a9 aA aB aC : Value} {t : TypeId} (h : w.heap[b]? = some (.cells #[a0, a1, a2, a3, a4, a5, a6, a7, a8, a9, aA, aB, aC] t (0, 0))) (v0 v1 v2 v3 v4 v5 v6 v7 v8 v9 vA vB vC : Value) : (((((((((((((w.setCell ⟨b, 0, none⟩ v0).setCell ⟨b, 1, none⟩ v1).setCell ⟨b, 2, none⟩ v2).setCell ⟨b, 3, none⟩ v3).setCell ⟨b, 4, none⟩ v4).setCell ⟨b, 5, none⟩ v5).setCell ⟨b, 6, none⟩ v6).setCell ⟨b, 7, none⟩ v7).setCell ⟨b, 8, none⟩ v8).setCell ⟨b, 9, none⟩ v9).setCell ⟨b, 10, none⟩ vA).setCell ⟨b, 11, none⟩ vB).setCell ⟨b, 12, none⟩ vC).heap[b]? = some (.cells #[v0, v1, v2, v3, v4, v5, v6, v7, v8, v9, vA, vB, vC] t (0, 0)) := by
  have h0 := blk_set h 0 v0
  have h1 := blk_set h0 1 v1
  have h2 := blk_set h1 2 v2
  have h3 := blk_set h2 3 v3
  have h4 := blk_set h3 4 v4
  have h5 := blk_set h4 5 v5
  have h6 := blk_set h5 6 v6
  have h7 := blk_set h6 7 v7
  have h8 := blk_set h7 8 v8
  have h9 := blk_set h8 9 v9
  have hA := blk_set h9 10 vA
  have hB := blk_set hA 11 vB
  have hC := blk_set hB 12 vC
  simpa using hC
theorem res_msg {fn : Func} {c r1 r2 : Tmp} (hfn : fn.results = #[.cell c 25, .tmp r1, .tmp r2]) {tmps : Array Value} {b : Nat} (ht : tmps.getD c undef = .pointer (some ⟨b, 0, none⟩)) {W : World} {a0 a1 a2 a3 a4 a5 a6 a7 a8 a9 aA aB aC : Value} (h : W.heap[b]? = some (.cells #[a0, a1, a2, a3, a4, a5, a6, a7, a8, a9, aA, aB, aC] 25 (0, 0))) :
    (results fn tmps).run Try.prog W = .ok (.tuple #[.agg #[a0, a1, a2, a3, a4, a5, a6, a7, a8, a9, aA, aB, aC], tmps.getD r1 undef, tmps.getD r2 undef]) W := by
  obtain ⟨h0, h1, h2, h3, h4, h5, h6, h7, h8, h9, hA, hB, hC⟩ := cell13w h
  have ht' : tmps[c]?.getD undef = .pointer (some ⟨b, 0, none⟩) := by rw [← Array.getD_eq_getD_getElem?]; exact ht
  simp [results, hfn, ht', go_sem, h0, h1, h2, h3, h4, h5, h6, h7, h8, h9, hA, hB, hC]
theorem jump_ret {Q : Exit → Act → World → Prop} {l : Nat} {J : Act → World → Prop} {a : Act} {w : World} : Exit.jump l J Q .ret a w = Q .ret a w := rfl
theorem NoBad.jump {Q : Exit → Act → World → Prop} {l : Nat} {J : Act → World → Prop} (h : NoBad Q) : NoBad (Exit.jump l J Q) := ⟨h.pan, h.out⟩
theorem fitN_hit {m : Msg} {limit : Int} {k : Nat} (h : fits (m.tk k) limit = true) : fitN m limit k = some (m.tk k) := by
  cases k <;> rw [fitN, if_pos h]
theorem fitN_less {m : Msg} {limit : Int} {k : Nat} (h : fits (m.tk (k + 1)) limit = false) : fitN m limit (k + 1) = fitN m limit k := by rw [fitN, if_neg (by rw [h]; decide)]
theorem fitN_cut {m : Msg} {limit : Int} (h : fits (m.tk 0) limit = false) : fitN m limit 0 = if fits m.cut limit then some m.cut else none := by rw [fitN, if_neg (by rw [h]; decide)]
theorem mid_tk {m : Msg} (h : Mid m) (k : Nat) : Mid (m.tk k) := ⟨h.qs, h.an, h.ns, ⟨by have := h.ex.1; simp [Msg.tk]; omega, fun r hr => h.ex.2 r (List.mem_of_mem_take hr)⟩⟩
theorem mid_cut {m : Msg} (h : Mid m) : Mid m.cut := ⟨h.qs, ⟨by simp [Msg.cut], fun r hr => by simp [Msg.cut] at hr⟩, ⟨by simp [Msg.cut], fun r hr => by simp [Msg.cut] at hr⟩, ⟨by simp [Msg.cut], fun r hr => by simp [Msg.cut] at hr⟩⟩
structure FitJ (m : Msg) (limit : Int) (w : World) (cut : Bool) (mm : Msg) (q a n x : Option Addr) (W : World) : Prop where
  upd : Upd0 w W
  rd : MsR W mm q a n x
  far : ∀ g o, (q = some ⟨g, o, none⟩ ∨ a = some ⟨g, o, none⟩ ∨ n = some ⟨g, o, none⟩ ∨ x = some ⟨g, o, none⟩) → w.heap.size + 2 ≤ g
  st : (cut = false ∧ ∃ k, k ≤ m.ex.length ∧ mm = m.tk k ∧ fitN m limit m.ex.length = fitN m limit k) ∨ (cut = true ∧ mm = m.cut ∧ fitN m limit m.ex.length = if fits m.cut limit then some m.cut else none)
theorem MsR.upF {w W W' : World} {mm : Msg} {q a n x : Option Addr} (h : MsR W mm q a n x) (far : ∀ g o, (q = some ⟨g, o, none⟩ ∨ a = some ⟨g, o, none⟩ ∨ n = some ⟨g, o, none⟩ ∨ x = some ⟨g, o, none⟩) → w.heap.size + 2 ≤ g) (k : Upd (fun b => b = w.heap.size ∨ b = w.heap.size + 1) W W') : MsR W' mm q a n x :=
  ⟨h.qs.upB k (fun g o e hs => by have := far g o (.inl e); omega), h.an.upB k (fun g o e hs => by have := far g o (.inr (.inl e)); omega), h.ns.upB k (fun g o e hs => by have := far g o (.inr (.inr (.inl e))); omega), h.ex.upB k (fun g o e hs => by have := far g o (.inr (.inr (.inr e))); omega)⟩
def FitA (m : Msg) (limit : Int) (w : World) (a0 : Value) (A : Act) (W : World) : Prop :=
  ∃ (cut : Bool) (mm : Msg) (q a n x : Option Addr) (cq ca cn cx : Nat) (u8 u9 u10 u11 u12 u13 u14 u15 u16 u17 u18 u19 u20 u21 u22 u23 u24 u25 u26 u27 u28 u29 u30 u31 u32 u33 u34 u35 u36 u37 u38 u39 u40 u41 u42 u43 u44 u45 u46 u47 u48 u49 u50 u51 u52 u53 u54 u55 u56 u57 u58 u59 u60 u61 u62 u63 u64 u65 u66 u67 u68 u69 u70 u71 u72 u73 : Value), A = { tmps := #[a0, .int .i64 limit, .pointer (some ⟨w.heap.size, 0, none⟩), undef, .pointer (some ⟨w.heap.size + 1, 0, none⟩), .string ⟨#[]⟩, .int .i64 0, .bool cut, u8, u9, u10, u11, u12, u13, u14, u15, u16, u17, u18, u19, u20, u21, u22, u23, u24, u25, u26, u27, u28, u29, u30, u31, u32, u33, u34, u35, u36, u37, u38, u39, u40, u41, u42, u43, u44, u45, u46, u47, u48, u49, u50, u51, u52, u53, u54, u55, u56, u57, u58, u59, u60, u61, u62, u63, u64, u65, u66, u67, u68, u69, u70, u71, u72, u73], defers := [] } ∧
    FitJ m limit w cut mm q a n x W ∧ W.heap[w.heap.size]? = some (.cells #[.int .i64 mm.id, .bool mm.re, .int .i64 mm.op, .bool mm.au, .bool mm.tr, .bool mm.wa, .bool mm.av, .int .i64 mm.rc, .slice q mm.qs.length cq, .slice a mm.an.length ca, .slice n mm.ns.length cn, .slice x mm.ex.length cx, .int .i64 mm.sz] 25 (0, 0)) ∧
    W.heap[w.heap.size + 1]? = some (.cells #[.int .i64 0, .bool false, .int .i64 0, .bool false, .bool false, .bool false, .bool false, .int .i64 0, .slice none 0 0, .slice none 0 0, .slice none 0 0, .slice none 0 0, .int .i64 0] 25 (0, 0)) ∧ mm.ex.length ≤ cx
def exLen : Option Value → Nat
  | some (.slice _ n _) => n
  | _ => 0
def FitMu (w : World) (A : Act) (W : World) : Nat := match A.tmps.getD 7 undef with
  | .bool true => 0
  | _ => exLen (W.cell? ⟨w.heap.size, 11, none⟩) + 1
theorem upd13 (w : World) (b : Nat) (v0 v1 v2 v3 v4 v5 v6 v7 v8 v9 vA vB vC : Value) : Upd (fun k => k = b) w (((((((((((((w.setCell ⟨b, 0, none⟩ v0).setCell ⟨b, 1, none⟩ v1).setCell ⟨b, 2, none⟩ v2).setCell ⟨b, 3, none⟩ v3).setCell ⟨b, 4, none⟩ v4).setCell ⟨b, 5, none⟩ v5).setCell ⟨b, 6, none⟩ v6).setCell ⟨b, 7, none⟩ v7).setCell ⟨b, 8, none⟩ v8).setCell ⟨b, 9, none⟩ v9).setCell ⟨b, 10, none⟩ vA).setCell ⟨b, 11, none⟩ vB).setCell ⟨b, 12, none⟩ vC) := by
  have h0 := (Upd.refl (fun k => k = b) w).setCell (p := ⟨b, 0, none⟩) (fun _ => rfl) v0
  have h1 := h0.setCell (p := ⟨b, 1, none⟩) (fun _ => rfl) v1
  have h2 := h1.setCell (p := ⟨b, 2, none⟩) (fun _ => rfl) v2
  have h3 := h2.setCell (p := ⟨b, 3, none⟩) (fun _ => rfl) v3
  have h4 := h3.setCell (p := ⟨b, 4, none⟩) (fun _ => rfl) v4
  have h5 := h4.setCell (p := ⟨b, 5, none⟩) (fun _ => rfl) v5
  have h6 := h5.setCell (p := ⟨b, 6, none⟩) (fun _ => rfl) v6
  have h7 := h6.setCell (p := ⟨b, 7, none⟩) (fun _ => rfl) v7
  have h8 := h7.setCell (p := ⟨b, 8, none⟩) (fun _ => rfl) v8
  have h9 := h8.setCell (p := ⟨b, 9, none⟩) (fun _ => rfl) v9
  have hA := h9.setCell (p := ⟨b, 10, none⟩) (fun _ => rfl) vA
  have hB := hA.setCell (p := ⟨b, 11, none⟩) (fun _ => rfl) vB
  exact hB.setCell (p := ⟨b, 12, none⟩) (fun _ => rfl) vC
theorem fit_end {w W w1 X : World} {mm : Msg} {q a n x : Option Addr} (hu : Upd0 w W) (hu1 : Upd0 W w1) (hX : Upd (fun k => k = w.heap.size + 1) w1 X) (hrd : MsR W mm q a n x) (far : ∀ g o, (q = some ⟨g, o, none⟩ ∨ a = some ⟨g, o, none⟩ ∨ n = some ⟨g, o, none⟩ ∨ x = some ⟨g, o, none⟩) → w.heap.size + 2 ≤ g) : MsR X mm q a n x ∧ Upd0 w X :=
  ⟨(hrd.up hu1).upF far (hX.mono (fun _ _ h => .inr h)), Upd.trans (S := fun _ => False) (hu.tr hu1) hX (fun b hb e => by omega)⟩
theorem fit_end0 {w W w1 X : World} (hu : Upd0 w W) (hu1 : Upd0 W w1) (hX : Upd (fun k => k = w.heap.size + 1) w1 X) : MsR X msgZ none none none none ∧ Upd0 w X :=
  ⟨⟨.inl rfl, .inl rfl, .inl rfl, .inl rfl⟩, Upd.trans (S := fun _ => False) (hu.tr hu1) hX (fun b hb e => by omega)⟩
theorem Exit.jump_mono {Q : Exit → Act → World → Prop} {l : Nat} {J K : Act → World → Prop} (h : ∀ a w, J a w → K a w) : ∀ e a w, Exit.jump l J Q e a w → Exit.jump l K Q e a w := by
  intro e a w hq
  cases e with
  | goto l' => exact ⟨hq.1, h _ _ hq.2⟩
  | _ => exact hq
theorem wp_scope_jumps2 {P : Program} {Q : Exit → Act → World → Prop} {a : Act} {w : World} {c rest : Code} (l : Nat) (J : Act → World → Prop) (μ : Act → World → Nat) (hf : findLabel c l = some (Code.skip.seq rest))
    (pass : ∀ a w, J a w → rest.wp P (Exit.jump l (fun a' w' => J a' w' ∧ μ a' w' < μ a w) Q) a w)
    (first : (∀ a w, J a w → rest.wp P (Exit.jump l J Q) a w) → c.wp P (Exit.jump l J Q) a w) : (Code.scope c).wp P Q a w :=
  wp_scope_jumps l J μ hf (first fun a w h => Code.wp_mono (Exit.jump_mono fun _ _ h => h.1) (pass a w h)) (fun a w h => wp_seq (wp_skip (pass a w h)))
theorem tk_tk (m : Msg) (k : Nat) : (m.tk (k + 1)).tk k = m.tk k := by simp [Msg.tk, List.take_take]
theorem far_cut {B : Nat} {q a n x : Option Addr} (far : ∀ g o, (q = some ⟨g, o, none⟩ ∨ a = some ⟨g, o, none⟩ ∨ n = some ⟨g, o, none⟩ ∨ x = some ⟨g, o, none⟩) → B ≤ g) : ∀ g o, (q = some ⟨g, o, none⟩ ∨ (none : Option Addr) = some ⟨g, o, none⟩ ∨ (none : Option Addr) = some ⟨g, o, none⟩ ∨ (none : Option Addr) = some ⟨g, o, none⟩) → B ≤ g := fun g o h => by
  rcases h with h | h | h | h
  · exact far g o (.inl h)
  all_goals cases h
theorem fit_stepC {w W w1 X : World} {mm : Msg} {q a n x : Option Addr} (hu : Upd0 w W) (hu1 : Upd0 W w1) (hX : Upd (fun k => k = w.heap.size) w1 X) (hrd : MsR W mm q a n x) (far : ∀ g o, (q = some ⟨g, o, none⟩ ∨ a = some ⟨g, o, none⟩ ∨ n = some ⟨g, o, none⟩ ∨ x = some ⟨g, o, none⟩) → w.heap.size + 2 ≤ g) : MsR X mm.cut q none none none ∧ Upd0 w X := by
  have h := (hrd.up hu1).upF far (hX.mono (fun _ _ h => .inl h))
  exact ⟨⟨h.qs, .inl rfl, .inl rfl, .inl rfl⟩, Upd.trans (S := fun _ => False) (hu.tr hu1) hX (fun b hb e => by omega)⟩
theorem fit_stepT {w W w1 X : World} {mm : Msg} {q a n x : Option Addr} (hu : Upd0 w W) (hu1 : Upd0 W w1) (hX : Upd (fun k => k = w.heap.size) w1 X) (hrd : MsR W mm q a n x) (far : ∀ g o, (q = some ⟨g, o, none⟩ ∨ a = some ⟨g, o, none⟩ ∨ n = some ⟨g, o, none⟩ ∨ x = some ⟨g, o, none⟩) → w.heap.size + 2 ≤ g) (k : Nat) : MsR X (mm.tk k) q a n x ∧ Upd0 w X := by
  have h := (hrd.up hu1).upF far (hX.mono (fun _ _ h => .inl h))
  exact ⟨⟨h.qs, h.an, h.ns, h.ex.takeR k⟩, Upd.trans (S := fun _ => False) (hu.tr hu1) hX (fun b hb e => by omega)⟩
theorem fitMu_cut {w W X : World} {A A' : Act} (h : A.tmps.getD 7 undef = .bool false) (h' : A'.tmps.getD 7 undef = .bool true) : FitMu w A' X < FitMu w A W := by
  simp only [FitMu, h, h']; omega
theorem fitMu_less {w W X : World} {A A' : Act} {x x' : Option Addr} {n n' c c' : Nat} (h : A.tmps.getD 7 undef = .bool false) (h' : A'.tmps.getD 7 undef = .bool false) (hc : W.cell? ⟨w.heap.size, 11, none⟩ = some (.slice x n c)) (hc' : X.cell? ⟨w.heap.size, 11, none⟩ = some (.slice x' n' c')) (hl : n' < n) : FitMu w A' X < FitMu w A W := by
  simp only [FitMu, h, h', hc, hc', exLen]; omega
theorem fit_first {w w1 w2 w3 w4 w5 : World} (h1 : Upd0 w w1) (hz : w.heap.size + 2 ≤ w1.heap.size) (h2 : Upd0 w1 w2) (h3 : Upd0 w2 w3) {v8 v9 : Value} (h4 : Upd0 ((w3.setCell ⟨w.heap.size, 8, none⟩ v8).setCell ⟨w.heap.size, 9, none⟩ v9) w4) (h5 : Upd0 w4 w5) (vA vB : Value) (m : Msg) {q a n x : Option Addr}
    (hq : QsR w2 q m.qs) (ha : RsR w3 a m.an) (hn : RsR w4 n m.ns) (hx : RsR w5 x m.ex) {B2 B3 B4 B5 : Nat}
    (fq : ∀ g o, q = some ⟨g, o, none⟩ → B2 ≤ g) (fa : ∀ g o, a = some ⟨g, o, none⟩ → B3 ≤ g) (fn : ∀ g o, n = some ⟨g, o, none⟩ → B4 ≤ g) (fx : ∀ g o, x = some ⟨g, o, none⟩ → B5 ≤ g) (b2 : w1.heap.size ≤ B2 := by first | exact Nat.le_refl _ | simp) (b3 : w2.heap.size ≤ B3 := by first | exact Nat.le_refl _ | simp) (b4 : w3.heap.size ≤ B4 := by first | exact Nat.le_refl _ | simp) (b5 : w4.heap.size ≤ B5 := by first | exact Nat.le_refl _ | simp) :
    MsR ((w5.setCell ⟨w.heap.size, 10, none⟩ vA).setCell ⟨w.heap.size, 11, none⟩ vB) m q a n x ∧ Upd0 w ((w5.setCell ⟨w.heap.size, 10, none⟩ vA).setCell ⟨w.heap.size, 11, none⟩ vB) ∧ ∀ g o, (q = some ⟨g, o, none⟩ ∨ a = some ⟨g, o, none⟩ ∨ n = some ⟨g, o, none⟩ ∨ x = some ⟨g, o, none⟩) → w.heap.size + 2 ≤ g := by
  have k3 : Upd (fun k => k = w.heap.size) w3 ((w3.setCell ⟨w.heap.size, 8, none⟩ v8).setCell ⟨w.heap.size, 9, none⟩ v9) := ((Upd.refl (fun k => k = w.heap.size) w3).setCell (p := ⟨w.heap.size, 8, none⟩) (fun _ => rfl) _).setCell (p := ⟨w.heap.size, 9, none⟩) (fun _ => rfl) _
  have k5 : Upd (fun k => k = w.heap.size) w5 ((w5.setCell ⟨w.heap.size, 10, none⟩ vA).setCell ⟨w.heap.size, 11, none⟩ vB) := ((Upd.refl (fun k => k = w.heap.size) w5).setCell (p := ⟨w.heap.size, 10, none⟩) (fun _ => rfl) _).setCell (p := ⟨w.heap.size, 11, none⟩) (fun _ => rfl) _
  have s2 := h2.size
  have s3 := h3.size
  have s4 := h4.size
  simp only [World.size_setCell] at s4
  have nq : ∀ g o, q = some ⟨g, o, none⟩ → ¬ g = w.heap.size := fun g o h => by have := fq g o h; omega
  have na : ∀ g o, a = some ⟨g, o, none⟩ → ¬ g = w.heap.size := fun g o h => by have := fa g o h; omega
  have nn : ∀ g o, n = some ⟨g, o, none⟩ → ¬ g = w.heap.size := fun g o h => by have := fn g o h; omega
  have nx : ∀ g o, x = some ⟨g, o, none⟩ → ¬ g = w.heap.size := fun g o h => by have := fx g o h; omega
  refine ⟨⟨((((hq.up h3).upB k3 nq).up h4).up h5).upB k5 nq, (((ha.upB k3 na).up h4).up h5).upB k5 na, (hn.up h5).upB k5 nn, hx.upB k5 nx⟩, ?_, fun g o h => ?_⟩
  · have t1 : Upd0 w w3 := (h1.tr h2).tr h3
    have t2 : Upd0 w ((w3.setCell ⟨w.heap.size, 8, none⟩ v8).setCell ⟨w.heap.size, 9, none⟩ v9) := Upd.trans (S := fun _ => False) t1 k3 (fun b hb e => by omega)
    exact Upd.trans (S := fun _ => False) ((t2.tr h4).tr h5) k5 (fun b hb e => by omega)
  · rcases h with h | h | h | h
    · have := fq g o h; omega
    · have := fa g o h; omega
    · have := fn g o h; omega
    · have := fx g o h; omega
set_option maxRecDepth 100000 in
set_option maxHeartbeats 16000000 in
theorem fit_yes (m : Msg) (limit : Int) (q a n x : Option Addr) (cq ca cn cx : Nat) (w : World) (h : MsR w m q a n x) (hm : Mid m) (hO : fitO m limit = true) :
    Calls Try.prog 29 #[m.val q a n x cq ca cn cx, .int .i64 limit] w (Rets fun r w' => ∃ q' a' n' x' cq' ca' cn' cx', r = .tuple #[(fitM m limit).val q' a' n' x' cq' ca' cn' cx', .string ⟨(fitS m limit).toArray⟩, .int .i64 (fitC m limit)] ∧ MsR w' (fitM m limit) q' a' n' x' ∧ Upd0 w w') := by
  have hO2 := hO
  simp only [fitO, Bool.and_eq_true, decide_eq_true_eq] at hO2
  obtain ⟨hB, l1, l2⟩ := hO2
  have n1 : ¬ limit < 1 := by omega
  have n2 : ¬ 65535 < limit := by omega
  have hC := Lib.hid (show ∀ w', Upd0 w w' → Calls Try.prog 20 #[m.val q a n x cq ca cn cx] w' (Rets fun r w'' => r = .int .i64 0 ∧ Upd0 w' w'') from fun w' k => by
    have := check_w m q a n x cq ca cn cx w' (h.up k) hm
    rw [msgC, hB] at this
    exact this)
  have hQ := Lib.hid (fun (w' : World) (k : Upd0 w w') => cloneq_w q cq m.qs w' (h.qs.up k) hm.qs.1)
  have hA := Lib.hid (fun (w' : World) (k : Upd0 w w') => cloner_w a ca m.an w' (h.an.up k) hm.an.1)
  have hN := Lib.hid (fun (w' : World) (k : Upd0 w w') => cloner_w n cn m.ns w' (h.ns.up k) hm.ns.1)
  have hX := Lib.hid (fun (w' : World) (k : Upd0 w w') => cloner_w x cx m.ex w' (h.ex.up k) hm.ex.1)
  have hOh := Lib.hid hO
  have hmh := Lib.hid hm
  clear h hm hO hB l1 l2
  obtain ⟨id, re, op, au, tr, wa, av, rc, qs, an, ns, ex, sz⟩ := m
  simp only [] at hC hQ hA hN hX hOh
  simp only [Msg.val] at hC ⊢
  go_enter Try.func29, Try.ntmps29
  go_wp2_with (first | (with_reducible refine wp_serial (by kernel_rfl) (by kernel_rfl) (by repeat with_reducible (first | apply NoBad.then | apply NoBad.inBlock | apply NoBad.jump | exact NoBad.rets)) ?_) | fail)
  refine wp_scope_jumps2 0 (FitA ⟨id, re, op, au, tr, wa, av, rc, qs, an, ns, ex, sz⟩ limit w (.agg #[.int .i64 id, .bool re, .int .i64 op, .bool au, .bool tr, .bool wa, .bool av, .int .i64 rc, .slice q qs.length cq, .slice a an.length ca, .slice n ns.length cn, .slice x ex.length cx, .int .i64 sz])) (fun A W => FitMu w A W) rfl ?_ ?_
  · intro A W hJ
    obtain ⟨cut, mm, q', a', n', x', cq', ca', cn', cx', u8, u9, u10, u11, u12, u13, u14, u15, u16, u17, u18, u19, u20, u21, u22, u23, u24, u25, u26, u27, u28, u29, u30, u31, u32, u33, u34, u35, u36, u37, u38, u39, u40, u41, u42, u43, u44, u45, u46, u47, u48, u49, u50, u51, u52, u53, u54, u55, u56, u57, u58, u59, u60, u61, u62, u63, u64, u65, u66, u67, u68, u69, u70, u71, u72, u73, rfl, ⟨hu, hrd, hfar, hst⟩, hb, hz, hcx⟩ := hJ
    have hmid : Mid mm := by
      rcases hst with ⟨_, k, _, rfl, _⟩ | ⟨_, rfl, _⟩
      · exact mid_tk hmh.out k
      · exact mid_cut hmh.out
    have hE := Lib.hid (fun (w' : World) (k : Upd0 W w') => encode_w mm q' a' n' x' cq' ca' cn' cx' w' (hrd.up k) hmid)
    obtain ⟨E, hE1⟩ : ∃ E, encC mm = E := ⟨_, rfl⟩
    obtain ⟨S, hS1⟩ : ∃ S, encS mm = S := ⟨_, rfl⟩
    have hfit : fits mm limit = (decide (E = 0) && decide ((S.length : Int) ≤ limit)) := by rw [fits, hE1, hS1]
    rw [hE1, hS1] at hE
    have hyes := Lib.hid (show fits mm limit = true → fitR ⟨id, re, op, au, tr, wa, av, rc, qs, an, ns, ex, sz⟩ limit = some mm from fun hf => by
      rw [fitR, if_pos hOh.out]
      rcases hst with ⟨_, k, hk, rfl, e⟩ | ⟨_, rfl, e⟩
      · rw [e, fitN_hit hf]
      · rw [e, if_pos hf])
    have hrdh := Lib.hid hrd
    have hbh := Lib.hid hb
    have hzh := Lib.hid hz
    have hfith := Lib.hid hfit
    have hbl := blk_lt hb
    have hzl := blk_lt hz
    obtain ⟨m0, m1, m2, m3, m4, m5, m6, m7, m8, m9, mA, mB, mC⟩ := cell13w hb
    obtain ⟨z0, z1, z2, z3, z4, z5, z6, z7, z8, z9, zA, zB, zC⟩ := cell13w hz
    have hE1h := Lib.hid hE1
    have hS1h := Lib.hid hS1
    have hsth := Lib.hid hst
    clear hb hz hrd hfit hE1 hS1 hst
    by_cases hf : E = 0 ∧ (S.length : Int) ≤ limit
    · obtain ⟨hf0, hf1⟩ := hf
      have hfy : fits mm limit = true := by rw [hfith.out, decide_eq_true hf0, decide_eq_true hf1]; rfl
      have hres := Lib.hid (hyes.out hfy)
      subst hf0
      obtain ⟨id2, re2, op2, au2, tr2, wa2, av2, rc2, qs2, an2, ns2, ex2, sz2⟩ := mm
      simp only [Msg.val] at hE
      simp only [] at m0 m1 m2 m3 m4 m5 m6 m7 m8 m9 mA mB mC
      clear hfy hyes hsth hfith
      go_wp2_with (first
        | (go_at_call 18; (with_reducible refine (hE.out _ (by repeat first | with_reducible (first | exact Upd.refl _ _ | assumption | apply Upd.drew | apply Upd.alloc) | refine Upd0.tr ?_ (by with_reducible assumption) | refine Upd.setCell ?_ (fun h => absurd h (by first | exact Nat.lt_irrefl _ | (simp only []; omega))) _)).use ?_); rintro v w1 ⟨rfl, hu1⟩; have b1 := Lib.hid (hu1.block (fun h => h) hbh.out); obtain ⟨c0, c1, c2, c3, c4, c5, c6, c7, c8, c9, cA, cB, cC⟩ := cell13w b1.out; have bz1 := Lib.hid (hu1.block (fun h => h) hzh.out); obtain ⟨y0, y1, y2, y3, y4, y5, y6, y7, y8, y9, yA, yB, yC⟩ := cell13w bz1.out; have fz := fun i => blk_frz bz1.out i; have fb := fun i => blk_frz b1.out i; have hl1 := blk_lt b1.out; have hl2 := blk_lt bz1.out)
        | (with_reducible refine wp_serial (by kernel_rfl) (by kernel_rfl) (by repeat with_reducible (first | apply NoBad.then | apply NoBad.inBlock | apply NoBad.jump | exact NoBad.rets)) ?_) | fail)
      rw [jump_ret]
      change bodyPost _ _ _ Exit.ret _ _
      have hz2 := m13_set bz1.out (.int .i64 id2) (.bool re2) (.int .i64 op2) (.bool au2) (.bool tr2) (.bool wa2) (.bool av2) (.int .i64 rc2) (.slice q' qs2.length cq') (.slice a' an2.length ca') (.slice n' ns2.length cn') (.slice x' ex2.length cx') (.int .i64 sz2)
      refine bodyPost_ret (v := .tuple #[.agg #[.int .i64 id2, .bool re2, .int .i64 op2, .bool au2, .bool tr2, .bool wa2, .bool av2, .int .i64 rc2, .slice q' qs2.length cq', .slice a' an2.length ca', .slice n' ns2.length cn', .slice x' ex2.length cx', .int .i64 sz2], .string ⟨S.toArray⟩, .int .i64 0]) (by exact res_msg Try.results29 rfl hz2) rfl ?_
      have e1 : fitM ⟨id, re, op, au, tr, wa, av, rc, qs, an, ns, ex, sz⟩ limit = ⟨id2, re2, op2, au2, tr2, wa2, av2, rc2, qs2, an2, ns2, ex2, sz2⟩ := by rw [fitM, hres.out]; rfl
      have e2 : fitS ⟨id, re, op, au, tr, wa, av, rc, qs, an, ns, ex, sz⟩ limit = S := by rw [fitS, hres.out]; exact hS1h.out
      have e3 : fitC ⟨id, re, op, au, tr, wa, av, rc, qs, an, ns, ex, sz⟩ limit = 0 := by
        have := hres.out
        rw [fitR, if_pos hOh.out] at this
        rw [fitC, if_pos hOh.out, this]; rfl
      have hk := fit_end hu hu1 (upd13 w1 (w.heap.size + 1) (.int .i64 id2) (.bool re2) (.int .i64 op2) (.bool au2) (.bool tr2) (.bool wa2) (.bool av2) (.int .i64 rc2) (.slice q' qs2.length cq') (.slice a' an2.length ca') (.slice n' ns2.length cn') (.slice x' ex2.length cx') (.int .i64 sz2)) hrdh.out hfar
      rw [e1, e2, e3]
      exact ⟨q', a', n', x', cq', ca', cn', cx', rfl, hk.1, hk.2⟩
    · have hno : fits mm limit = false := by
        rw [hfith.out]
        by_cases h0 : E = 0
        · rw [decide_eq_false (fun h => hf ⟨h0, h⟩), Bool.and_false]
        · rw [decide_eq_false h0]; rfl
      have hcase : (E = 0 ∧ ¬ (S.length : Int) ≤ limit) ∨ ¬ E = 0 := by
        by_cases h0 : E = 0
        · exact .inl ⟨h0, fun h => hf ⟨h0, h⟩⟩
        · exact .inr h0
      rcases hsth.out with ⟨hc, k, hk, hmm, e⟩ | ⟨hc, hmm, e⟩
      · subst hc
        have hl2 := hmid.ex.1
        obtain ⟨id2, re2, op2, au2, tr2, wa2, av2, rc2, qs2, an2, ns2, ex2, sz2⟩ := mm
        simp only [Msg.val] at hE
        simp only [] at m0 m1 m2 m3 m4 m5 m6 m7 m8 m9 mA mB mC hcx hl2
        have hxk : ex2 = ex.take k := congrArg Msg.ex hmm
        clear hsth hyes
        have eh := Lib.hid e
        have hmh2 := Lib.hid hmm
        have hnoh := Lib.hid hno
        have mBh := Lib.hid mB
        clear e hmm hno hf hfith
        rcases k with _ | k
        · have hx0 : ex2 = [] := by rw [hxk]; rfl
          subst hx0
          simp only [List.length_nil] at hE mB mBh
          clear hxk
          rcases hcase with ⟨rfl, hl⟩ | hE0
          all_goals
              go_wp2_with (first
              | (go_at_call 18; (with_reducible refine (hE.out _ (by repeat first | with_reducible (first | exact Upd.refl _ _ | assumption | apply Upd.drew | apply Upd.alloc) | refine Upd0.tr ?_ (by with_reducible assumption) | refine Upd.setCell ?_ (fun h => absurd h (by first | exact Nat.lt_irrefl _ | (simp only []; omega))) _)).use ?_); rintro v w1 ⟨rfl, hu1⟩; have b1 := Lib.hid (hu1.block (fun h => h) hbh.out); obtain ⟨c0, c1, c2, c3, c4, c5, c6, c7, c8, c9, cA, cB, cC⟩ := cell13w b1.out; have bz1 := Lib.hid (hu1.block (fun h => h) hzh.out); obtain ⟨y0, y1, y2, y3, y4, y5, y6, y7, y8, y9, yA, yB, yC⟩ := cell13w bz1.out; have fz := fun i => blk_frz bz1.out i; have fb := fun i => blk_frz b1.out i; have hl1 := blk_lt b1.out; have hl2 := blk_lt bz1.out)
              | (with_reducible refine wp_serial (by kernel_rfl) (by kernel_rfl) (by repeat with_reducible (first | apply NoBad.then | apply NoBad.inBlock | apply NoBad.jump | exact NoBad.rets)) ?_) | fail)
          all_goals
            go_step3
            have hX : Upd (fun k => k = w.heap.size) w1 ((((w1.setCell ⟨w.heap.size, 4, none⟩ (.bool true)).setCell ⟨w.heap.size, 9, none⟩ (.slice none 0 0)).setCell ⟨w.heap.size, 10, none⟩ (.slice none 0 0)).setCell ⟨w.heap.size, 11, none⟩ (.slice none 0 0)) := ((((Upd.refl (fun k => k = w.heap.size) w1).setCell (p := ⟨w.heap.size, 4, none⟩) (fun _ => rfl) _).setCell (p := ⟨w.heap.size, 9, none⟩) (fun _ => rfl) _).setCell (p := ⟨w.heap.size, 10, none⟩) (fun _ => rfl) _).setCell (p := ⟨w.heap.size, 11, none⟩) (fun _ => rfl) _
            have hb4 := blk_set (blk_set (blk_set (blk_set b1.out 4 (.bool true)) 9 (.slice none 0 0)) 10 (.slice none 0 0)) 11 (.slice none 0 0)
            have hk := fit_stepC hu hu1 hX hrdh.out hfar
            refine And.intro rfl (And.intro ⟨true, Msg.cut ⟨id2, re2, op2, au2, tr2, wa2, av2, rc2, qs2, an2, ns2, [], sz2⟩, q', none, none, none, cq', 0, 0, 0, _, _, _, _, _, _, _, _, _, _, _, _, _, _, _, _, _, _, _, _, _, _, _, _, _, _, _, _, _, _, _, _, _, _, _, _, _, _, _, _, _, _, _, _, _, _, _, _, _, _, _, _, _, _, _, _, _, _, _, _, _, _, _, _, _, _, rfl, ⟨hk.2, hk.1, far_cut hfar, .inr ⟨rfl, by rw [hmh2.out]; rfl, eh.out.trans (fitN_cut (by rw [← hmh2.out]; exact hnoh.out))⟩⟩, (by simpa [Msg.cut] using hb4), hX.block (by omega) bz1.out, Nat.zero_le _⟩ (fitMu_cut rfl rfl))
        · have hlen : ex2.length = k + 1 := by rw [hxk, List.length_take]; exact Nat.min_eq_left hk
          have hl1 : (0 : Int) < (ex2.length : Int) := by omega
          have hlenh := Lib.hid hlen
          have hxkh := Lib.hid hxk
          clear hlen hxk
          rcases hcase with ⟨rfl, hl⟩ | hE0
          all_goals
              go_wp2_with (first
              | (go_at_call 18; (with_reducible refine (hE.out _ (by repeat first | with_reducible (first | exact Upd.refl _ _ | assumption | apply Upd.drew | apply Upd.alloc) | refine Upd0.tr ?_ (by with_reducible assumption) | refine Upd.setCell ?_ (fun h => absurd h (by first | exact Nat.lt_irrefl _ | (simp only []; omega))) _)).use ?_); rintro v w1 ⟨rfl, hu1⟩; have b1 := Lib.hid (hu1.block (fun h => h) hbh.out); obtain ⟨c0, c1, c2, c3, c4, c5, c6, c7, c8, c9, cA, cB, cC⟩ := cell13w b1.out; have bz1 := Lib.hid (hu1.block (fun h => h) hzh.out); obtain ⟨y0, y1, y2, y3, y4, y5, y6, y7, y8, y9, yA, yB, yC⟩ := cell13w bz1.out; have fz := fun i => blk_frz bz1.out i; have fb := fun i => blk_frz b1.out i; have hl1 := blk_lt b1.out; have hl2 := blk_lt bz1.out)
              | (with_reducible refine wp_serial (by kernel_rfl) (by kernel_rfl) (by repeat with_reducible (first | apply NoBad.then | apply NoBad.inBlock | apply NoBad.jump | exact NoBad.rets)) ?_) | fail)
          all_goals
            go_step3
            have hv : ex2.length - 1 = (ex2.take k).length := by rw [List.length_take]; have := hlenh.out; omega
            rw [hv]
            have hX : Upd (fun k => k = w.heap.size) w1 (w1.setCell ⟨w.heap.size, 11, none⟩ (.slice x' (ex2.take k).length cx')) := (Upd.refl (fun k => k = w.heap.size) w1).setCell (p := ⟨w.heap.size, 11, none⟩) (fun _ => rfl) _
            have hb4 := blk_set b1.out 11 (.slice x' (ex2.take k).length cx')
            have hk2 := fit_stepT hu hu1 hX hrdh.out hfar k
            have hlt : (ex2.take k).length < ex2.length := by rw [List.length_take]; have := hlenh.out; omega
            refine And.intro rfl (And.intro ⟨false, Msg.tk ⟨id2, re2, op2, au2, tr2, wa2, av2, rc2, qs2, an2, ns2, ex2, sz2⟩ k, q', a', n', x', cq', ca', cn', cx', _, _, _, _, _, _, _, _, _, _, _, _, _, _, _, _, _, _, _, _, _, _, _, _, _, _, _, _, _, _, _, _, _, _, _, _, _, _, _, _, _, _, _, _, _, _, _, _, _, _, _, _, _, _, _, _, _, _, _, _, _, _, _, _, _, _, rfl, ⟨hk2.2, hk2.1, hfar, .inl ⟨rfl, k, Nat.le_of_succ_le hk, by rw [hmh2.out]; exact tk_tk _ _, eh.out.trans (fitN_less (by rw [← hmh2.out]; exact hnoh.out))⟩⟩, (by simpa [Msg.tk] using hb4), hX.block (by omega) bz1.out, (by simp only [Msg.tk, List.length_take]; omega)⟩ (fitMu_less rfl rfl mBh.out (by rw [blk_cell hb4]; rfl) hlt))
      · subst hc
        have e0 : fitR ⟨id, re, op, au, tr, wa, av, rc, qs, an, ns, ex, sz⟩ limit = none := by rw [fitR, if_pos hOh.out, e, if_neg (by rw [← hmm, hno]; decide)]
        have e1 : fitM ⟨id, re, op, au, tr, wa, av, rc, qs, an, ns, ex, sz⟩ limit = msgZ := by rw [fitM, e0]; rfl
        have e2 : fitS ⟨id, re, op, au, tr, wa, av, rc, qs, an, ns, ex, sz⟩ limit = [] := by rw [fitS, e0]
        have e3 : fitC ⟨id, re, op, au, tr, wa, av, rc, qs, an, ns, ex, sz⟩ limit = 4 := by
          have := e0
          rw [fitR, if_pos hOh.out] at this
          rw [fitC, if_pos hOh.out, this]; rfl
        have e1h := Lib.hid e1
        have e2h := Lib.hid e2
        have e3h := Lib.hid e3
        obtain ⟨id2, re2, op2, au2, tr2, wa2, av2, rc2, qs2, an2, ns2, ex2, sz2⟩ := mm
        simp only [Msg.val] at hE
        simp only [] at m0 m1 m2 m3 m4 m5 m6 m7 m8 m9 mA mB mC
        clear hmm e hno hf hyes hsth hfith e0 e1 e2 e3
        rcases hcase with ⟨rfl, hl⟩ | hE0
        all_goals
          go_wp2_with (first
            | (go_at_call 18; (with_reducible refine (hE.out _ (by repeat first | with_reducible (first | exact Upd.refl _ _ | assumption | apply Upd.drew | apply Upd.alloc) | refine Upd0.tr ?_ (by with_reducible assumption) | refine Upd.setCell ?_ (fun h => absurd h (by first | exact Nat.lt_irrefl _ | (simp only []; omega))) _)).use ?_); rintro v w1 ⟨rfl, hu1⟩; have b1 := Lib.hid (hu1.block (fun h => h) hbh.out); obtain ⟨c0, c1, c2, c3, c4, c5, c6, c7, c8, c9, cA, cB, cC⟩ := cell13w b1.out; have bz1 := Lib.hid (hu1.block (fun h => h) hzh.out); obtain ⟨y0, y1, y2, y3, y4, y5, y6, y7, y8, y9, yA, yB, yC⟩ := cell13w bz1.out; have fz := fun i => blk_frz bz1.out i; have fb := fun i => blk_frz b1.out i; have hl1 := blk_lt b1.out; have hl2 := blk_lt bz1.out)
            | (with_reducible refine wp_serial (by kernel_rfl) (by kernel_rfl) (by repeat with_reducible (first | apply NoBad.then | apply NoBad.inBlock | apply NoBad.jump | exact NoBad.rets)) ?_) | fail)
        all_goals
          rw [jump_ret]
          change bodyPost _ _ _ Exit.ret _ _
          have hz2 := m13_set bz1.out (.int .i64 0) (.bool false) (.int .i64 0) (.bool false) (.bool false) (.bool false) (.bool false) (.int .i64 0) (.slice none 0 0) (.slice none 0 0) (.slice none 0 0) (.slice none 0 0) (.int .i64 0)
          refine bodyPost_ret (v := .tuple #[.agg #[.int .i64 0, .bool false, .int .i64 0, .bool false, .bool false, .bool false, .bool false, .int .i64 0, .slice none 0 0, .slice none 0 0, .slice none 0 0, .slice none 0 0, .int .i64 0], .string ⟨#[]⟩, .int .i64 4]) (by exact res_msg Try.results29 rfl hz2) rfl ?_
          have hk := fit_end0 hu hu1 (upd13 w1 (w.heap.size + 1) (.int .i64 0) (.bool false) (.int .i64 0) (.bool false) (.bool false) (.bool false) (.bool false) (.int .i64 0) (.slice none 0 0) (.slice none 0 0) (.slice none 0 0) (.slice none 0 0) (.int .i64 0))
          rw [e1h.out, e2h.out, e3h.out]
          exact ⟨none, none, none, none, 0, 0, 0, 0, rfl, hk.1, hk.2⟩
  · intro hp
    have hph := Lib.hid hp
    clear hp
    have tkA : True := trivial
    have tkN : True := trivial
    have tkX : True := trivial
    go_wp2_with (first
      | (go_at_call 20; (with_reducible refine (hC.out _ (by repeat first | with_reducible (first | exact Upd.refl _ _ | assumption | apply Upd.drew | apply Upd.alloc) | refine Upd0.tr ?_ (by with_reducible assumption) | refine Upd.setCell ?_ (fun h => absurd h (by first | exact Nat.lt_irrefl _ | (simp only []; omega))) _)).use ?_); rintro v w1 ⟨rfl, hu1⟩; have bc1 := Lib.hid (show w1.heap[w.heap.size]? = some (.cells #[.int .i64 id, .bool re, .int .i64 op, .bool au, .bool tr, .bool wa, .bool av, .int .i64 rc, .slice q qs.length cq, .slice a an.length ca, .slice n ns.length cn, .slice x ex.length cx, .int .i64 sz] 25 (0, 0)) from hu1.block (fun h => h) (by first | exact alloc_last _ _ _ rfl | exact blk_alloc (alloc_last _ _ _ rfl) | exact blk_alloc (blk_alloc (alloc_last _ _ _ rfl)))); obtain ⟨c10, c11, c12, c13, c14, c15, c16, c17, c18, c19, c110, c111, c112⟩ := cell13w bc1.out; have hlc1 := blk_lt bc1.out; have nec1 : ¬ w.heap.size = w1.heap.size := (by omega); have nfc1 : ¬ w1.heap.size = w.heap.size := (by omega); have bz1 := Lib.hid (show w1.heap[w.heap.size + 1]? = some (.cells #[.int .i64 0, .bool false, .int .i64 0, .bool false, .bool false, .bool false, .bool false, .int .i64 0, .slice none 0 0, .slice none 0 0, .slice none 0 0, .slice none 0 0, .int .i64 0] 25 (0, 0)) from hu1.block (fun h => h) (alloc_last _ _ _ (by simp))); have hz1 := blk_lt bz1.out)
      | (with_reducible refine wp_serial3_1 0 [] [0, 1, 3, 4] 2 [5, 6, 7, 8, 9] [_, _, _, _] _ [_, _, _, _, _] (by kernel_rfl) (by decide +kernel) rfl rfl rfl ⟨Nat.zero_le _, fun s hs => absurd hs List.not_mem_nil⟩ (by repeat with_reducible (first | apply NoBad.then | apply NoBad.inBlock | apply NoBad.jump | exact NoBad.rets)) ?_)
      | (go_at_call 53; (with_reducible refine (hQ.out _ (by repeat first | with_reducible (first | exact Upd.refl _ _ | assumption | apply Upd.drew | apply Upd.alloc) | refine Upd0.tr ?_ (by with_reducible assumption) | refine Upd.setCell ?_ (fun h => absurd h (by first | exact Nat.lt_irrefl _ | (simp only []; omega))) _)).use ?_); rintro v w2 ⟨q2, cq2, rfl, hq2, hu2, hf2⟩; have hq2h := Lib.hid hq2; have hf2h := Lib.hid hf2; clear hq2 hf2)
      | (refine And.intro hu2.ext ?_)
      | (refine And.intro hu4.ext ?_)
      | (go_at_call 54; have _t := tkA; clear tkA _t; (with_reducible refine (hA.out _ (by repeat first | with_reducible (first | exact Upd.refl _ _ | assumption | apply Upd.drew | apply Upd.alloc) | refine Upd0.tr ?_ (by with_reducible assumption) | refine Upd.setCell ?_ (fun h => absurd h (by first | exact Nat.lt_irrefl _ | (simp only []; omega))) _)).use ?_); rintro v w3 ⟨a2, ca2, rfl, ha2, hu3, hca, hf3⟩; have ha2h := Lib.hid ha2; have hf3h := Lib.hid hf3; clear ha2 hf3; have bc3 := Lib.hid (show w3.heap[w.heap.size]? = some (.cells #[.int .i64 id, .bool re, .int .i64 op, .bool au, .bool tr, .bool wa, .bool av, .int .i64 rc, .slice q qs.length cq, .slice a an.length ca, .slice n ns.length cn, .slice x ex.length cx, .int .i64 sz] 25 (0, 0)) from hu3.block (fun h => h) (hu2.block (fun h => h) bc1.out)); obtain ⟨d30, d31, d32, d33, d34, d35, d36, d37, d38, d39, d3A, d3B, d3C⟩ := cell13w bc3.out; have fb3 := fun i => blk_frz bc3.out i; have hl3 := blk_lt bc3.out; have bz3 := Lib.hid (show w3.heap[w.heap.size + 1]? = some (.cells #[.int .i64 0, .bool false, .int .i64 0, .bool false, .bool false, .bool false, .bool false, .int .i64 0, .slice none 0 0, .slice none 0 0, .slice none 0 0, .slice none 0 0, .int .i64 0] 25 (0, 0)) from hu3.block (fun h => h) (hu2.block (fun h => h) bz1.out)))
      | (go_at_call 54; have _t := tkN; clear tkN _t; (with_reducible refine (hN.out _ (by repeat first | with_reducible (first | exact Upd.refl _ _ | assumption | apply Upd.drew | apply Upd.alloc) | refine Upd0.tr ?_ (by with_reducible assumption) | refine Upd.setCell ?_ (fun h => absurd h (by first | exact Nat.lt_irrefl _ | (simp only []; omega))) _)).use ?_); rintro v w4 ⟨n2, cn2, rfl, hn2, hu4, hcn, hf4⟩; have hn2h := Lib.hid hn2; have hf4h := Lib.hid hf4; clear hn2 hf4; have bc4 := Lib.hid (show w4.heap[w.heap.size]? = some (.cells #[.int .i64 id, .bool re, .int .i64 op, .bool au, .bool tr, .bool wa, .bool av, .int .i64 rc, .slice q2 qs.length cq2, .slice a2 an.length ca2, .slice n ns.length cn, .slice x ex.length cx, .int .i64 sz] 25 (0, 0)) from hu4.block (fun h => h) (by have hq := blk_set (blk_set bc3.out 8 (.slice q2 qs.length cq2)) 9 (.slice a2 an.length ca2); simp at hq; exact hq)); obtain ⟨d40, d41, d42, d43, d44, d45, d46, d47, d48, d49, d4A, d4B, d4C⟩ := cell13w bc4.out; have fb4 := fun i => blk_frz bc4.out i; have hl4 := blk_lt bc4.out; have bz4 := Lib.hid (show w4.heap[w.heap.size + 1]? = some (.cells #[.int .i64 0, .bool false, .int .i64 0, .bool false, .bool false, .bool false, .bool false, .int .i64 0, .slice none 0 0, .slice none 0 0, .slice none 0 0, .slice none 0 0, .int .i64 0] 25 (0, 0)) from hu4.block (fun h => h) (by have e1 := blk_set_other (w := w3) (b := w.heap.size) (n := w.heap.size + 1) (by omega) 8 (.slice q2 qs.length cq2); have e2 := blk_set_other (w := w3.setCell ⟨w.heap.size, 8, none⟩ (.slice q2 qs.length cq2)) (b := w.heap.size) (n := w.heap.size + 1) (by omega) 9 (.slice a2 an.length ca2); exact (e2.trans e1).trans bz3.out)))
      | (go_at_call 54; have _t := tkX; clear tkX _t; (with_reducible refine (hX.out _ (by repeat first | with_reducible (first | exact Upd.refl _ _ | assumption | apply Upd.drew | apply Upd.alloc) | refine Upd0.tr ?_ (by with_reducible assumption) | refine Upd.setCell ?_ (fun h => absurd h (by first | exact Nat.lt_irrefl _ | (simp only []; omega))) _)).use ?_); rintro v w5 ⟨x2, cx2, rfl, hx2, hu5, hcx, hf5⟩; have hx2h := Lib.hid hx2; have hf5h := Lib.hid hf5; clear hx2 hf5; have bc5 := Lib.hid (show w5.heap[w.heap.size]? = some (.cells #[.int .i64 id, .bool re, .int .i64 op, .bool au, .bool tr, .bool wa, .bool av, .int .i64 rc, .slice q2 qs.length cq2, .slice a2 an.length ca2, .slice n ns.length cn, .slice x ex.length cx, .int .i64 sz] 25 (0, 0)) from hu5.block (fun h => h) bc4.out); obtain ⟨d50, d51, d52, d53, d54, d55, d56, d57, d58, d59, d5A, d5B, d5C⟩ := cell13w bc5.out; have fb5 := fun i => blk_frz bc5.out i; have hl5 := blk_lt bc5.out; have bz5 := Lib.hid (show w5.heap[w.heap.size + 1]? = some (.cells #[.int .i64 0, .bool false, .int .i64 0, .bool false, .bool false, .bool false, .bool false, .int .i64 0, .slice none 0 0, .slice none 0 0, .slice none 0 0, .slice none 0 0, .int .i64 0] 25 (0, 0)) from hu5.block (fun h => h) bz4.out))
      | (with_reducible refine wp_serial (by kernel_rfl) (by kernel_rfl) (by repeat with_reducible (first | apply NoBad.then | apply NoBad.inBlock | apply NoBad.jump | exact NoBad.rets)) ?_) | fail)
    go_step3
    rename_i hK
    refine hK _ _ (hph.out _ _ ?_)
    have hk := fit_first (w1 := w1) (show Upd0 w w1 from (by exact Upd0.tr (by repeat first | with_reducible (first | exact Upd.refl _ _ | assumption | apply Upd.drew | apply Upd.alloc) | refine Upd0.tr ?_ (by with_reducible assumption) | refine Upd.setCell ?_ (fun h => absurd h (by first | exact Nat.lt_irrefl _ | (simp only []; omega))) _) hu1)) (by have := hz1; omega) (by exact Upd0.tr (by repeat first | with_reducible (first | exact Upd.refl _ _ | assumption | apply Upd.drew | apply Upd.alloc) | refine Upd0.tr ?_ (by with_reducible assumption) | refine Upd.setCell ?_ (fun h => absurd h (by first | exact Nat.lt_irrefl _ | (simp only []; omega))) _) hu2) (by exact Upd0.tr (by repeat first | with_reducible (first | exact Upd.refl _ _ | assumption | apply Upd.drew | apply Upd.alloc) | refine Upd0.tr ?_ (by with_reducible assumption) | refine Upd.setCell ?_ (fun h => absurd h (by first | exact Nat.lt_irrefl _ | (simp only []; omega))) _) hu3) (by exact Upd0.tr (by repeat first | with_reducible (first | exact Upd.refl _ _ | assumption | apply Upd.drew | apply Upd.alloc) | refine Upd0.tr ?_ (by with_reducible assumption) | refine Upd.setCell ?_ (fun h => absurd h (by first | exact Nat.lt_irrefl _ | (simp only []; omega))) _) hu4) (by exact Upd0.tr (by repeat first | with_reducible (first | exact Upd.refl _ _ | assumption | apply Upd.drew | apply Upd.alloc) | refine Upd0.tr ?_ (by with_reducible assumption) | refine Upd.setCell ?_ (fun h => absurd h (by first | exact Nat.lt_irrefl _ | (simp only []; omega))) _) hu5) (.slice n2 ns.length cn2) (.slice x2 ex.length cx2) ⟨id, re, op, au, tr, wa, av, rc, qs, an, ns, ex, sz⟩ hq2h.out ha2h.out hn2h.out hx2h.out hf2h.out hf3h.out hf4h.out hf5h.out
    have hb5 := blk_set (blk_set bc5.out 10 (.slice n2 ns.length cn2)) 11 (.slice x2 ex.length cx2)
    refine ⟨false, ⟨id, re, op, au, tr, wa, av, rc, qs, an, ns, ex, sz⟩, q2, a2, n2, x2, cq2, ca2, cn2, cx2, _, _, _, _, _, _, _, _, _, _, _, _, _, _, _, _, _, _, _, _, _, _, _, _, _, _, _, _, _, _, _, _, _, _, _, _, _, _, _, _, _, _, _, _, _, _, _, _, _, _, _, _, _, _, _, _, _, _, _, _, _, _, _, _, _, _, rfl, ⟨hk.2.1, hk.1, hk.2.2, .inl ⟨rfl, ex.length, Nat.le_refl _, by simp [Msg.tk], rfl⟩⟩, (by simpa using hb5), ?_, hcx⟩
    have e1 := blk_set_other (w := w5) (b := w.heap.size) (n := w.heap.size + 1) (by omega) 10 (.slice n2 ns.length cn2)
    have e2 := blk_set_other (w := w5.setCell ⟨w.heap.size, 10, none⟩ (.slice n2 ns.length cn2)) (b := w.heap.size) (n := w.heap.size + 1) (by omega) 11 (.slice x2 ex.length cx2)
    exact (e2.trans e1).trans bz5.out
end Go.Proofs.Ytgdejgfmhndbhaa
