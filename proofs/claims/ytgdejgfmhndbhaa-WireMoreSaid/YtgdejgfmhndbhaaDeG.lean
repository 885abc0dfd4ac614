/-
  The program's Decode.
-/
import Derived.Test.YtgdejgfmhndbhaaDeF
import Derived.Test.YtgdejgfmhndbhaaDeP
import Derived.Test.YtgdejgfmhndbhaaCpM
import Derived.Great.BuildSlice
namespace Go.Proofs.Ytgdejgfmhndbhaa
open Go.RowKit
set_option linter.unusedSimpArgs false
set_option linter.unusedVariables false
theorem rkm_new (s : Bs) (w : World) (o : Obj) : RkM ((w.alloc o).alloc (.cells #[.string ⟨s.toArray⟩, .int .i64 0, .int .i64 0] 78 (0, 0))) (w.heap.size + 1) s ⟨0, 0⟩ := alloc_last _ _ _ (by simp)
structure DI (s : Bs) (w : World) (bm : Nat) (c : Array Value) (r : Rk) (W : World) : Prop where
  mem : RkM W (w.heap.size + 1) s r
  zer : W.heap[w.heap.size]? = some (.cells #[.int .i64 0, .bool false, .int .i64 0, .bool false, .bool false, .bool false, .bool false, .int .i64 0, .slice none 0 0, .slice none 0 0, .slice none 0 0, .slice none 0 0, .int .i64 0] 25 (0, 0))
  blk : W.heap[bm]? = some (.cells c 25 (0, 0))
  upd : Upd0 w W
  lo : w.heap.size + 1 < bm
theorem DI.lt {s : Bs} {w : World} {bm : Nat} {c : Array Value} {r : Rk} {W : World} (h : DI s w bm c r W) : w.heap.size < W.heap.size ∧ w.heap.size + 1 < W.heap.size ∧ bm < W.heap.size := ⟨blk_lt h.zer, h.mem.lt, blk_lt h.blk⟩
theorem DI.call {s : Bs} {w : World} {bm : Nat} {c : Array Value} {r r' : Rk} {W W' : World} (h : DI s w bm c r W) (hm : RkM W' (w.heap.size + 1) s r') (hu : UpdT (w.heap.size + 1) W W') : DI s w bm c r' W' :=
  ⟨hm, hu.block (by omega) h.zer, hu.block (by have := h.lo; omega) h.blk, UpdT.fin h.upd (Nat.le_succ _) hu, h.lo⟩
theorem DI.up0 {s : Bs} {w : World} {bm : Nat} {c : Array Value} {r : Rk} {W W' : World} (h : DI s w bm c r W) (hu : Upd0 W W') : DI s w bm c r W' := h.call (h.mem.to0 hu) (UpdT.of0 hu)
theorem DI.set {s : Bs} {w : World} {bm : Nat} {c : Array Value} {r : Rk} {W : World} (h : DI s w bm c r W) (i : Nat) (v : Value) : DI s w bm (c.setIfInBounds i v) r (W.setCell ⟨bm, i, none⟩ v) :=
  ⟨h.mem.other (by have := h.lo; omega) i v, by rw [blk_set_other (by have := h.lo; omega)]; exact h.zer, blk_set h.blk i v, h.upd.setCell (p := ⟨bm, i, none⟩) (fun k => absurd k (by have := h.lo; simp only []; omega)) _, h.lo⟩
theorem DI.as {s : Bs} {w : World} {bm : Nat} {c c' : Array Value} {r : Rk} {W : World} (h : DI s w bm c r W) (e : c = c') : DI s w bm c' r W := e ▸ h
theorem DI.new {s : Bs} {w w1 : World} {c : Array Value} {r : Rk} (hm : RkM w1 (w.heap.size + 1) s r) (hu : UpdT (w.heap.size + 1) ((w.alloc (.cells #[.int .i64 0, .bool false, .int .i64 0, .bool false, .bool false, .bool false, .bool false, .int .i64 0, .slice none 0 0, .slice none 0 0, .slice none 0 0, .slice none 0 0, .int .i64 0] 25 (0, 0))).alloc (.cells #[.string ⟨s.toArray⟩, .int .i64 0, .int .i64 0] 78 (0, 0))) w1) : DI s w w1.heap.size c r (w1.alloc (.cells c 25 (0, 0))) := by
  have h1 := hu.size
  simp at h1
  exact ⟨hm.to0 (by repeat first | with_reducible (first | exact Upd.refl _ _ | assumption | apply Upd.drew | apply Upd.alloc) | refine Upd0.tr ?_ (by with_reducible assumption) | refine Upd.setCell ?_ (fun h => absurd h (by first | exact Nat.lt_irrefl _ | (simp only []; omega))) _), blk_alloc (hu.block (by omega) (blk_alloc (alloc_last _ _ _ rfl))), alloc_last _ _ _ rfl, (UpdT.fin (show Upd0 w ((w.alloc _).alloc _) from (by repeat first | with_reducible (first | exact Upd.refl _ _ | assumption | apply Upd.drew | apply Upd.alloc) | refine Upd0.tr ?_ (by with_reducible assumption) | refine Upd.setCell ?_ (fun h => absurd h (by first | exact Nat.lt_irrefl _ | (simp only []; omega))) _)) (Nat.le_succ _) hu).alloc _, by omega⟩
structure QI (s : Bs) (w : World) (bm : Nat) (c : Array Value) (b : Nat) (nm : Bs) (ty : Int) (r : Rk) (W0 W : World) : Prop where
  di : DI s w bm c r W
  blk : W.heap[b]? = some (.cells #[.string ⟨nm.toArray⟩, .int .i64 ty] 41 (0, 0))
  upd : UpdT (w.heap.size + 1) W0 W
  lo : W0.heap.size ≤ b
  ld : bm < W0.heap.size
theorem QI.call {s : Bs} {w : World} {bm : Nat} {c : Array Value} {b : Nat} {nm : Bs} {ty : Int} {r r' : Rk} {W0 W W' : World} (h : QI s w bm c b nm ty r W0 W) (hm : RkM W' (w.heap.size + 1) s r') (hu : UpdT (w.heap.size + 1) W W') : QI s w bm c b nm ty r' W0 W' :=
  ⟨h.di.call hm hu, hu.block (by have := h.lo; have := h.ld; have := h.di.lo; omega) h.blk, h.upd.tr hu, h.lo, h.ld⟩
theorem QI.up0 {s : Bs} {w : World} {bm : Nat} {c : Array Value} {b : Nat} {nm : Bs} {ty : Int} {r : Rk} {W0 W W' : World} (h : QI s w bm c b nm ty r W0 W) (hu : Upd0 W W') : QI s w bm c b nm ty r W0 W' := h.call (h.di.mem.to0 hu) (UpdT.of0 hu)
theorem QI.set1 {s : Bs} {w : World} {bm : Nat} {c : Array Value} {b : Nat} {nm : Bs} {ty : Int} {r : Rk} {W0 W : World} (h : QI s w bm c b nm ty r W0 W) (x : Int) : QI s w bm c b nm x r W0 (W.setCell ⟨b, 1, none⟩ (.int .i64 x)) := by
  have h1 := h.lo
  have h2 := h.ld
  have h3 := h.di.lo
  exact ⟨⟨h.di.mem.other (by omega) _ _, by rw [blk_set_other (by omega)]; exact h.di.zer, by rw [blk_set_other (by omega)]; exact h.di.blk, h.di.upd.setCell (p := ⟨b, 1, none⟩) (fun k => absurd k (by simp only []; omega)) _, h.di.lo⟩,
    by simpa using blk_set h.blk 1 (.int .i64 x), h.upd.setCell (p := ⟨b, 1, none⟩) (fun k => absurd k (by simp only []; omega)) _, h1, h2⟩
theorem QI.new {s : Bs} {w : World} {bm : Nat} {c : Array Value} {nm : Bs} {r0 r : Rk} {W0 w1 : World} (h : DI s w bm c r0 W0) (hm : RkM w1 (w.heap.size + 1) s r) (hu : UpdT (w.heap.size + 1) W0 w1) : QI s w bm c w1.heap.size nm 0 r W0 (w1.alloc (.cells #[.string ⟨nm.toArray⟩, .int .i64 0] 41 (0, 0))) :=
  ⟨(h.call hm hu).up0 (by repeat first | with_reducible (first | exact Upd.refl _ _ | assumption | apply Upd.drew | apply Upd.alloc) | refine Upd0.tr ?_ (by with_reducible assumption) | refine Upd.setCell ?_ (fun h => absurd h (by first | exact Nat.lt_irrefl _ | (simp only []; omega))) _), alloc_last _ _ _ rfl, hu.alloc _, hu.size, blk_lt h.blk⟩
def msgZ0 : Msg := ⟨0, false, 0, false, false, false, false, 0, [], [], [], [], 0⟩
def decM (s : Bs) : Msg := if (dcE s).e = 0 then dcG s else msgZ0
def DecQ (s : Bs) (w : World) (v : Value) (w' : World) : Prop := ∃ q a n x cq ca cn cx, v = .tuple #[(decM s).val q a n x cq ca cn cx, .int .i64 (dcE s).e] ∧ MsR w' (decM s) q a n x ∧ Upd0 w w'
theorem and112 (f : Nat) : f &&& 112 = 16 * (f / 16 % 8) := by
  apply Nat.eq_of_testBit_eq
  intro i
  have e : 16 * (f / 16 % 8) = (f / 2 ^ 4 % 2 ^ 3) * 2 ^ 4 := by simp; omega
  rw [e, Nat.testBit_and]
  by_cases h : i < 7
  · have h' : i = 0 ∨ i = 1 ∨ i = 2 ∨ i = 3 ∨ i = 4 ∨ i = 5 ∨ i = 6 := by omega
    rcases h' with rfl | rfl | rfl | rfl | rfl | rfl | rfl <;> simp only [Nat.testBit_mul_two_pow, Nat.testBit_mod_two_pow, Nat.testBit_div_two_pow] <;> simp <;> (intro _; rfl)
  · have h1 : Nat.testBit 112 i = false := Nat.testBit_lt_two_pow (Nat.lt_of_lt_of_le (by decide : 112 < 2 ^ 7) (Nat.pow_le_pow_right (by decide) (by omega)))
    rw [h1, Nat.testBit_mul_two_pow, Nat.testBit_mod_two_pow]
    simp
    omega
theorem and15 (f : Nat) : f &&& 15 = f % 16 := Nat.and_two_pow_sub_one_eq_mod f 4
theorem andP (f k : Nat) : f &&& 2 ^ k = 2 ^ k * (f / 2 ^ k % 2) := by
  apply Nat.eq_of_testBit_eq
  intro i
  have e : 2 ^ k * (f / 2 ^ k % 2) = (f / 2 ^ k % 2 ^ 1) * 2 ^ k := by rw [Nat.mul_comm]
  rw [e, Nat.testBit_and, Nat.testBit_two_pow, Nat.testBit_mul_two_pow, Nat.testBit_mod_two_pow, Nat.testBit_div_two_pow]
  by_cases h : k = i
  · subst h; simp
  · simp [h]
    omega
theorem bitP (f k : Nat) (K : Int) (hK : K = ((2 ^ k : Nat) : Int)) (hk : k < 16) (hf : f < 65536) : bits .and .i64 (f : Int) K = ((2 ^ k * (f / 2 ^ k % 2) : Nat) : Int) := by
  subst hK
  have hp : 2 ^ k ≤ 2 ^ 15 := Nat.pow_le_pow_right (by decide) (by omega)
  rw [bits_and_i64 _ _ (by omega) (by have : (2 : Nat) ^ 15 = 32768 := rfl; omega), andP]
theorem bit112 (f : Nat) (hf : f < 65536) : bits .and .i64 (f : Int) 112 = ((16 * (f / 16 % 8) : Nat) : Int) := by
  have := bits_and_i64 f 112 (by omega) (by omega)
  rw [and112] at this
  exact this
theorem bit15 (f : Nat) (hf : f < 65536) : bits .and .i64 (f : Int) 15 = ((f % 16 : Nat) : Int) := by
  have := bits_and_i64 f 15 (by omega) (by omega)
  rw [and15] at this
  exact this
theorem bit_is (f k : Nat) (K : Int) (hK : K = ((2 ^ k : Nat) : Int)) (hk : k < 16) (hf : f < 65536) : ∃ g : Nat, bits .and .i64 (f : Int) K = (g : Int) ∧ ((g : Int) != 0) = decide (f / 2 ^ k % 2 = 1) := by
  refine ⟨_, bitP f k K hK hk hf, ?_⟩
  show (!((_ : Int) == 0)) = _
  have hp : 0 < 2 ^ k := Nat.pow_pos (by decide)
  rcases Nat.mod_two_eq_zero_or_one (f / 2 ^ k) with e | e
  · rw [e]; simp
  · rw [e, Nat.mul_one, decide_eq_true rfl, Bool.not_eq_true', beq_eq_false_iff_ne]; omega
theorem bit112_is (f : Nat) (hf : f < 65536) : ∃ g : Nat, bits .and .i64 (f : Int) 112 = (g : Int) ∧ ((g : Int) == 0) = decide (f / 16 % 8 = 0) := by
  refine ⟨_, bit112 f hf, ?_⟩
  by_cases h : f / 16 % 8 = 0
  · rw [decide_eq_true h, h]; rfl
  · rw [decide_eq_false h, beq_eq_false_iff_ne]; omega
theorem hi_bit (f : Nat) (hf : f < 65536) : decide (f / 2 ^ 15 % 2 = 1) = decide (32768 ≤ f) := decide_eq_decide.2 (by have : (2 : Nat) ^ 15 = 32768 := rfl; omega)
theorem res_dec {fn : Func} {c r1 : Tmp} (hfn : fn.results = #[.cell c 25, .tmp r1]) {tmps : Array Value} {b : Nat} (ht : tmps.getD c undef = .pointer (some ⟨b, 0, none⟩)) {W : World} {a0 a1 a2 a3 a4 a5 a6 a7 a8 a9 aA aB aC : Value} (h : W.heap[b]? = some (.cells #[a0, a1, a2, a3, a4, a5, a6, a7, a8, a9, aA, aB, aC] 25 (0, 0))) :
    (results fn tmps).run Try.prog W = .ok (.tuple #[.agg #[a0, a1, a2, a3, a4, a5, a6, a7, a8, a9, aA, aB, aC], tmps.getD r1 undef]) W := by
  obtain ⟨h0, h1, h2, h3, h4, h5, h6, h7, h8, h9, hA, hB, hC⟩ := cell13w h
  have ht' : tmps[c]?.getD undef = .pointer (some ⟨b, 0, none⟩) := by rw [← Array.getD_eq_getD_getElem?]; exact ht
  simp [results, hfn, ht', go_sem, h0, h1, h2, h3, h4, h5, h6, h7, h8, h9, hA, hB, hC]
theorem nuI_p {s : Bs} (hs : s.length ≤ 70000) {r : Rk} (hp : r.p ≤ 70000) : ∀ k, (nuI s r k).p ≤ 70000
  | 0 => hp
  | k + 1 => takR_p s _ 2 (nuI_p hs hp k) hs
theorem nu_w (t : Nat) (s : Bs) (r : Rk) (n : Nat) (r' : Rk) (hn : nuN s r 2 = n) (hr : nuR s r 2 = r') (w : World) (h : RkM w t s r) (hs : s.length ≤ 70000) (hp : r.p ≤ 70000) :
    Calls Try.prog 49 #[.pointer (some ⟨t, 0, none⟩), .int .i64 2] w (Rets fun v w' => v = .int .i64 n ∧ RkM w' t s r' ∧ UpdT t w w') := by
  subst hn hr; exact num2_w t s r w h hs hp
theorem st_row {W wF : World} {b : Nat} {c cs : Array Value} {T : TypeId} (h : W.heap[b]? = some (.cells c T (0, 0))) (hw : W.setRow b cs = wF) : wF.heap[b]? = some (.cells cs T (0, 0)) ∧ Upd (fun k => k = b) W wF := by
  subst hw; exact ⟨setRow_heap W b _ cs T (0, 0) h, (Upd.refl (fun k => k = b) W).setRow (g := b) (fun _ => rfl) cs⟩
theorem rcF_p {s : Bs} (hs : s.length ≤ 70000) (last : Bool) (n : Nat) : ∀ (f i : Nat) (r : Rk) (l : List Rc), r.p ≤ 70000 → (rcF s last n f i r l).2.p ≤ 70000
  | 0, i, r, l, hp => hp
  | f + 1, i, r, l, hp => by
    have h1 : (qhA s r).p ≤ 70000 := (naR_fin hs hp).2
    have h2 : (qhB s r).p ≤ 70000 := takR_p s _ 2 h1 hs
    have h3 : (qhR s r).p ≤ 70000 := takR_p s _ 2 h2 hs
    rw [rcF]
    split
    · split
      · show (Rk.want _ _ _).p ≤ _
        rw [Rk.want_p]
        exact takR_p s _ 2 (takR_p s _ 4 h3 hs) hs
      · refine rcF_p hs last n f (i + 1) _ _ ?_
        rw [reE, Rk.want_p, reD]
        have h4 : (reW s (qhC s r) (qhR s r)).p ≤ 70000 := by rw [reW, Rk.want_p]; exact h3
        have h5 : (reB s (reW s (qhC s r) (qhR s r))).p ≤ 70000 := takR_p s _ 2 (takR_p s _ 4 h4 hs) hs
        exact (da_fin hs h5 _ (Nat.le_of_lt_succ (nuN_2 s _))).2
    · exact hp
theorem rcR_p {s : Bs} (hs : s.length ≤ 70000) {r : Rk} (hp : r.p ≤ 70000) (n : Nat) (last : Bool) : (rcR s r n last).2.p ≤ 70000 := rcF_p hs last n n 0 _ [] (by rw [rcW, Rk.want_p]; exact hp)
theorem dec_rows {t bm b0 k cap : Nat} {wr w9 w10 w11 w12 wF : World} {v9 v10 v11 v12 : Value} {l : List Qn} {an ns ex : List Rc} {ao a9 a10 a11 : Option Addr} (ht : t ≤ bm) (hb0 : b0 ≤ bm)
    (hu9 : UpdT t wr w9) (hu10 : UpdT t (w9.setCell ⟨bm, 9, none⟩ v9) w10) (hu11 : UpdT t (w10.setCell ⟨bm, 10, none⟩ v10) w11) (hu12 : UpdT t ((w11.setCell ⟨bm, 11, none⟩ v11).setCell ⟨bm, 12, none⟩ v12) w12) (hup : Upd (fun k => k = b0) w12 wF)
    (hQ : QsR wr ao l) (hq : ∀ g, (Value.slice ao k cap).ownBlock = some g → bm < g) (h9 : RsR w9 a9 an) (f9 : ∀ g o, a9 = some ⟨g, o, none⟩ → bm < g) (h10 : RsR w10 a10 ns) (f10 : ∀ g o, a10 = some ⟨g, o, none⟩ → bm < g) (h11 : RsR w11 a11 ex) (f11 : ∀ g o, a11 = some ⟨g, o, none⟩ → bm < g) :
    QsR wF ao l ∧ RsR wF a9 an ∧ RsR wF a10 ns ∧ RsR wF a11 ex := by
  have T : ∀ {w w' : World}, UpdT t w w' → Upd (fun g => g ≤ bm) w w' := fun h => h.mono (fun _ _ e => by omega)
  have J : ∀ {w w' w'' : World}, Upd (fun g => g ≤ bm) w w' → Upd (fun g => g ≤ bm) w' w'' → Upd (fun g => g ≤ bm) w w'' := fun h k => Upd.trans h k (fun _ _ h => h)
  have S : ∀ (w : World) (i : Nat) (v : Value), Upd (fun g => g ≤ bm) w (w.setCell ⟨bm, i, none⟩ v) := fun w i v => (Upd.refl (fun g => g ≤ bm) w).setCell (p := ⟨bm, i, none⟩) (fun _ => Nat.le_refl _) v
  have uF : Upd (fun g => g ≤ bm) w12 wF := hup.mono (fun _ _ e => by omega)
  have u12 := J (J (S w11 11 v11) (S _ 12 v12)) (T hu12)
  have u11 := J (S w10 10 v10) (T hu11)
  have u10 := J (S w9 9 v9) (T hu10)
  have b11 := J u12 uF
  have b10 := J u11 b11
  have b9 := J u10 b10
  exact ⟨hQ.upB (J (T hu9) b9) (fun g o e h => by have := hq g (by rw [e]; rfl); omega), h9.upB b9 (fun g o e h => by have := f9 g o e; omega), h10.upB b10 (fun g o e h => by have := f10 g o e; omega), h11.upB b11 (fun g o e h => by have := f11 g o e; omega)⟩
def DecR (s : Bs) (w : World) (M : Msg) (E : Rk) (v : Value) (w' : World) : Prop := ∃ q a n x cq ca cn cx, v = .tuple #[M.val q a n x cq ca cn cx, .int .i64 E.e] ∧ MsR w' M q a n x ∧ Upd0 w w'
theorem dec_fre {W : World} {v v' : Value} {bm : Nat} (hf : Fresh W v v') (h : ∀ g, v.ownBlock = some g → bm < g) (hl : bm < W.heap.size) : ∀ g, v'.ownBlock = some g → bm < g := fun g hg => (hf g hg).elim (h g) (fun e => by omega)
theorem dec_row {W : World} {e : TypeId} {sz n bm : Nat} {v : Value} {xs : List Value} (h : W.ownsRow 0 e sz v n xs) (hf : ∀ g, v.ownBlock = some g → bm < g) (i : Nat) (u : Value) : (W.setCell ⟨bm, i, none⟩ u).ownsRow 0 e sz v n xs :=
  ownsRow_upd (S := fun n => n = bm) h ((Upd.refl (fun n => n = bm) W).setCell (p := ⟨bm, i, none⟩) (fun _ => rfl) _) (fun g hg e => by have := hf g hg; omega)
theorem dec_app {s : Bs} {w : World} {bm : Nat} {c : Array Value} {r : Rk} {W W' W0 : World} {ao : Option Addr} {k cap : Nat} {o : Obj} (h : DI s w bm c r W) (hs : W0.heap.size ≤ W.heap.size) (hf : ∀ g, (Value.slice ao k cap).ownBlock = some g → bm < g) (hu : Upd (fun g => (Value.slice ao k cap).ownBlock = some g) (W.alloc o) W') : DI s w bm c r W' := by
  have h1 := h.lo
  have h2 := h.up0 (show Upd0 W (W.alloc o) from (by repeat first | with_reducible (first | exact Upd.refl _ _ | assumption | apply Upd.drew | apply Upd.alloc) | refine Upd0.tr ?_ (by with_reducible assumption) | refine Upd.setCell ?_ (fun h => absurd h (by first | exact Nat.lt_irrefl _ | (simp only []; omega))) _))
  refine ⟨hu.block (fun e => by have := hf _ e; omega) h2.mem, hu.block (fun e => by have := hf _ e; omega) h2.zer, hu.block (fun e => by have := hf _ e; omega) h2.blk, ?_, h1⟩
  exact Upd.trans h2.upd hu (fun g hg e => absurd (hf g e) (by omega))
set_option maxRecDepth 100000 in
set_option maxHeartbeats 16000000 in
theorem decode_w (s : Bs) (w : World) (hs : s.length ≤ 70000) :
    Calls Try.prog 23 #[.string ⟨s.toArray⟩] w (Rets fun v w' => DecQ s w v w') := by
  obtain ⟨i1, hi1, hq0, hq1, hq2⟩ := info_parts info_q
  obtain ⟨iD, hiD⟩ : ∃ x, nuN s ⟨0, 0⟩ 2 = x := ⟨_, rfl⟩
  obtain ⟨r1, hr1⟩ : ∃ x, nuI s ⟨0, 0⟩ 1 = x := ⟨_, rfl⟩
  obtain ⟨f, hf⟩ : ∃ x, dcF s = x := ⟨_, rfl⟩
  obtain ⟨r2, hr2⟩ : ∃ x, nuI s ⟨0, 0⟩ 2 = x := ⟨_, rfl⟩
  obtain ⟨r3, hr3⟩ : ∃ x, dcW s = x := ⟨_, rfl⟩
  obtain ⟨n0, hn0⟩ : ∃ x, dcN s 0 = x := ⟨_, rfl⟩
  obtain ⟨n1, hn1⟩ : ∃ x, dcN s 1 = x := ⟨_, rfl⟩
  obtain ⟨n2, hn2⟩ : ∃ x, dcN s 2 = x := ⟨_, rfl⟩
  obtain ⟨n3, hn3⟩ : ∃ x, dcN s 3 = x := ⟨_, rfl⟩
  have hp1 : r1.p ≤ 70000 := hr1 ▸ nuI_p hs (Nat.zero_le _) 1
  have hp2 : r2.p ≤ 70000 := hr2 ▸ nuI_p hs (Nat.zero_le _) 2
  have hp3 : r3.p ≤ 70000 := by rw [← hr3, dcW, Rk.want_p]; exact nuI_p hs (Nat.zero_le _) 2
  obtain ⟨r4, hr4⟩ : ∃ x, nuI s r3 1 = x := ⟨_, rfl⟩
  obtain ⟨r5, hr5⟩ : ∃ x, nuI s r3 2 = x := ⟨_, rfl⟩
  obtain ⟨r6, hr6⟩ : ∃ x, nuI s r3 3 = x := ⟨_, rfl⟩
  obtain ⟨r7, hr7⟩ : ∃ x, nuI s r3 4 = x := ⟨_, rfl⟩
  obtain ⟨r8, hr8⟩ : ∃ x, dcH s = x := ⟨_, rfl⟩
  have hp4 : r4.p ≤ 70000 := hr4 ▸ nuI_p hs hp3 1
  have hp5 : r5.p ≤ 70000 := hr5 ▸ nuI_p hs hp3 2
  have hp6 : r6.p ≤ 70000 := hr6 ▸ nuI_p hs hp3 3
  have hp7 : r7.p ≤ 70000 := hr7 ▸ nuI_p hs hp3 4
  have hp8 : r8.p ≤ 70000 := by rw [← hr8, dcH, Rk.want_p, hr3]; exact nuI_p hs hp3 4
  have hf6 : f < 65536 := by rw [← hf]; exact nuN_2 _ _
  have hiD6 : iD < 65536 := by rw [← hiD]; exact nuN_2 _ _
  have hn06 : n0 < 65536 := by rw [← hn0]; exact nuN_2 _ _
  have hn16 : n1 < 65536 := by rw [← hn1]; exact nuN_2 _ _
  have hn26 : n2 < 65536 := by rw [← hn2]; exact nuN_2 _ _
  have hn36 : n3 < 65536 := by rw [← hn3]; exact nuN_2 _ _
  have hN0 := Lib.hid (fun (w' : World) (h : RkM w' (w.heap.size + 1) s ⟨0, 0⟩) => nu_w (w.heap.size + 1) s ⟨0, 0⟩ iD r1 hiD (by rw [← hr1]; rfl) w' h hs (Nat.zero_le _))
  have hN1 := Lib.hid (fun (w' : World) (h : RkM w' (w.heap.size + 1) s r1) => nu_w (w.heap.size + 1) s r1 f r2 (by rw [← hf, dcF, hr1]) (by rw [← hr2, nuI, hr1]) w' h hs hp1)
  have hW1 := Lib.hid (fun (is : Bool) (w' : World) (h : RkM w' (w.heap.size + 1) s r2) (hb : is = decide (f / 16 % 8 = 0)) => want_is (w.heap.size + 1) s r2 is (decide (f / 16 % 8 = 0)) 2 (by decide) w' h hb)
  have e3 : r2.want (decide (f / 16 % 8 = 0)) 2 = r3 := by rw [← hr3, dcW, hr2, hf]
  rw [e3] at hW1
  have hN2 := Lib.hid (fun (w' : World) (h : RkM w' (w.heap.size + 1) s r3) => nu_w (w.heap.size + 1) s r3 n0 r4 (by rw [← hn0, dcN, hr3]; rfl) (by rw [← hr4]; rfl) w' h hs hp3)
  have hN3 := Lib.hid (fun (w' : World) (h : RkM w' (w.heap.size + 1) s r4) => nu_w (w.heap.size + 1) s r4 n1 r5 (by rw [← hn1, dcN, hr3, hr4]) (by rw [← hr5, nuI, hr4]) w' h hs hp4)
  have hN4 := Lib.hid (fun (w' : World) (h : RkM w' (w.heap.size + 1) s r5) => nu_w (w.heap.size + 1) s r5 n2 r6 (by rw [← hn2, dcN, hr3, hr5]) (by rw [← hr6, nuI, hr5]) w' h hs hp5)
  have hN5 := Lib.hid (fun (w' : World) (h : RkM w' (w.heap.size + 1) s r6) => nu_w (w.heap.size + 1) s r6 n3 r7 (by rw [← hn3, dcN, hr3, hr6]) (by rw [← hr7, nuI, hr6]) w' h hs hp6)
  have hW2 := Lib.hid (fun (is : Bool) (w' : World) (h : RkM w' (w.heap.size + 1) s r7) (hb : is = decide (n0 ≤ 10)) => want_is (w.heap.size + 1) s r7 is (decide (n0 ≤ 10)) 2 (by decide) w' h hb)
  have e8 : r7.want (decide (n0 ≤ 10)) 2 = r8 := by rw [← hr8, dcH, hr3, hr7, hn0]
  rw [e8] at hW2
  obtain ⟨Q, hQ⟩ : ∃ x, dcQ s = x := ⟨_, rfl⟩
  have hQ0 := Lib.hid (show Q = quF s n0 r8 [] by rw [← hQ, dcQ, hn0, hr8])
  obtain ⟨g0, hy0, hz0⟩ := bit112_is f hf6
  obtain ⟨g1, hy1, hz1⟩ := bit_is f 15 32768 rfl (by decide) hf6
  obtain ⟨g3, hy3, hz3⟩ := bit_is f 10 1024 rfl (by decide) hf6
  obtain ⟨g4, hy4, hz4⟩ := bit_is f 9 512 rfl (by decide) hf6
  obtain ⟨g5, hy5, hz5⟩ := bit_is f 8 256 rfl (by decide) hf6
  obtain ⟨g6, hy6, hz6⟩ := bit_is f 7 128 rfl (by decide) hf6
  have hy7 := bit15 f hf6
  have hy2 : bits .and .i64 ((f : Int) / 2048) 15 = ((f / 2048 % 16 : Nat) : Int) := by
    have := bit15 (f / 2048) (by omega)
    rw [show ((f / 2048 : Nat) : Int) = (f : Int) / 2048 by omega] at this
    exact this
  obtain ⟨rC, hrC⟩ : ∃ x, f % 16 = x := ⟨_, rfl⟩
  obtain ⟨oP, hoP⟩ : ∃ x, f / 2048 % 16 = x := ⟨_, rfl⟩
  rw [hrC] at hy7
  rw [hoP] at hy2
  obtain ⟨b1, hb1⟩ : ∃ x, ((g1 : Int) != 0) = x := ⟨_, rfl⟩
  obtain ⟨b3, hb3⟩ : ∃ x, ((g3 : Int) != 0) = x := ⟨_, rfl⟩
  obtain ⟨b4, hb4⟩ : ∃ x, ((g4 : Int) != 0) = x := ⟨_, rfl⟩
  obtain ⟨b5, hb5⟩ : ∃ x, ((g5 : Int) != 0) = x := ⟨_, rfl⟩
  obtain ⟨b6, hb6⟩ : ∃ x, ((g6 : Int) != 0) = x := ⟨_, rfl⟩
  have hzz := Lib.hid hz0
  have hG : ∀ (an ns ex : List Rc) (sz : Nat), dcA s = dcA s → True := fun _ _ _ _ _ => trivial
  rw [hb1, hi_bit f hf6] at hz1
  rw [hb3] at hz3
  rw [hb4] at hz4
  rw [hb5] at hz5
  rw [hb6] at hz6
  have hMG := Lib.hid (show dcG s = ⟨(iD : Nat), b1, (oP : Nat), b3, b4, b5, b6, (rC : Nat), Q.1, (dcA s).1.1, (dcU s).1.1, (dcX s).1.1, ((dcX s).1.2 : Nat)⟩ by
    rw [dcG, hiD, hf, hQ, hrC, hoP, hz1, hz3, hz4, hz5, hz6])
  have hA0 := Lib.hid (show dcA s = rcR s Q.2 n1 false by rw [dcA, hQ, hn1])
  have hU0 := Lib.hid (show dcU s = rcR s (dcA s).2 n2 false by rw [dcU, hn2])
  have hX0 := Lib.hid (show dcX s = rcR s (dcU s).2 n3 true by rw [dcX, hn3])
  clear hiD hr1 hf hr2 hr3 hn0 hn1 hn2 hn3 hr4 hr5 hr6 hr7 hr8 e3 e8 hQ hz0 hz1 hz3 hz4 hz5 hz6 hrC hoP hG
  have tk1 : True := trivial
  have tk2 : True := trivial
  have tk3 : True := trivial
  have tk4 : True := trivial
  have tk5 : True := trivial
  have tk6 : True := trivial
  have tk7 : True := trivial
  have tk8 : True := trivial
  go_enter Try.func23, Try.ntmps23
  go_wp2_with (first
    | (go_at_call 49; have _t := tk1; clear tk1 _t; (with_reducible refine (hN0.out _ (rkm_new s w _)).use ?_); rintro v w1 ⟨rfl, hm1, hu1⟩; have X1 := Lib.hid (DI.new (c := #[.int .i64 (iD : Nat), .bool false, .int .i64 0, .bool false, .bool false, .bool false, .bool false, .int .i64 0, .slice none 0 0, .slice none 0 0, .slice none 0 0, .slice none 0 0, .int .i64 0]) hm1 hu1); have hlw1 := hm1.lt; clear hm1)
    | (go_at_call 49; have _t := tk2; clear tk2 _t; (with_reducible refine (hN1.out _ X1.out.mem).use ?_); rintro v w2 ⟨rfl, hm2, hu2⟩; have X2 := Lib.hid (X1.out.call hm2 hu2); obtain ⟨c2a, c2b, c2c, c2d, c2e, c2f, c2g, c2h, c2i, c2j, c2k, c2l, c2m⟩ := cell13w X2.out.blk; obtain ⟨z2a, z2b, z2c, z2d⟩ := X2.out.mem.cells; obtain ⟨hl2a, hl2b, hl2c⟩ := X2.out.lt; have fm2 := fun i => blk_frz X2.out.blk i; clear hm2)
    | (go_at_call 50; have _t := tk3; clear tk3 _t; (with_reducible refine (hW1.out _ _ X2.out.mem hzz.out).use ?_); rintro v w3 ⟨rfl, hm3, hu3⟩; have X3 := Lib.hid (X2.out.call hm3 hu3); obtain ⟨c3a, c3b, c3c, c3d, c3e, c3f, c3g, c3h, c3i, c3j, c3k, c3l, c3m⟩ := cell13w X3.out.blk; obtain ⟨z3a, z3b, z3c, z3d⟩ := X3.out.mem.cells; obtain ⟨hl3a, hl3b, hl3c⟩ := X3.out.lt; have fm3 := fun i => blk_frz X3.out.blk i; clear hm3)
    | (go_at_call 49; have _t := tk4; clear tk4 _t; (with_reducible refine (hN2.out _ (((((((X3.out.set 1 (.bool b1)).set 3 (.bool b3)).set 4 (.bool b4)).set 5 (.bool b5)).set 6 (.bool b6)).set 2 (.int .i64 (oP : Nat))).set 7 (.int .i64 (rC : Nat))).mem).use ?_); rintro v w4 ⟨rfl, hm4, hu4⟩; have X4 := Lib.hid (show DI s w w1.heap.size #[.int .i64 (iD : Nat), .bool b1, .int .i64 (oP : Nat), .bool b3, .bool b4, .bool b5, .bool b6, .int .i64 (rC : Nat), .slice none 0 0, .slice none 0 0, .slice none 0 0, .slice none 0 0, .int .i64 0] r4 w4 from ((((((((X3.out.set 1 (.bool b1)).set 3 (.bool b3)).set 4 (.bool b4)).set 5 (.bool b5)).set 6 (.bool b6)).set 2 (.int .i64 (oP : Nat))).set 7 (.int .i64 (rC : Nat))).call hm4 hu4).as (by simp)); obtain ⟨c4a, c4b, c4c, c4d, c4e, c4f, c4g, c4h, c4i, c4j, c4k, c4l, c4m⟩ := cell13w X4.out.blk; obtain ⟨z4a, z4b, z4c, z4d⟩ := X4.out.mem.cells; obtain ⟨hl4a, hl4b, hl4c⟩ := X4.out.lt; have fm4 := fun i => blk_frz X4.out.blk i; clear hm4)
    | (go_at_call 49; have _t := tk5; clear tk5 _t; (with_reducible refine (hN3.out _ X4.out.mem).use ?_); rintro v w5 ⟨rfl, hm5, hu5⟩; have X5 := Lib.hid (X4.out.call hm5 hu5); obtain ⟨c5a, c5b, c5c, c5d, c5e, c5f, c5g, c5h, c5i, c5j, c5k, c5l, c5m⟩ := cell13w X5.out.blk; obtain ⟨z5a, z5b, z5c, z5d⟩ := X5.out.mem.cells; obtain ⟨hl5a, hl5b, hl5c⟩ := X5.out.lt; have fm5 := fun i => blk_frz X5.out.blk i; clear hm5)
    | (go_at_call 49; have _t := tk6; clear tk6 _t; (with_reducible refine (hN4.out _ X5.out.mem).use ?_); rintro v w6 ⟨rfl, hm6, hu6⟩; have X6 := Lib.hid (X5.out.call hm6 hu6); obtain ⟨c6a, c6b, c6c, c6d, c6e, c6f, c6g, c6h, c6i, c6j, c6k, c6l, c6m⟩ := cell13w X6.out.blk; obtain ⟨z6a, z6b, z6c, z6d⟩ := X6.out.mem.cells; obtain ⟨hl6a, hl6b, hl6c⟩ := X6.out.lt; have fm6 := fun i => blk_frz X6.out.blk i; clear hm6)
    | (go_at_call 49; have _t := tk7; clear tk7 _t; (with_reducible refine (hN5.out _ X6.out.mem).use ?_); rintro v w7 ⟨rfl, hm7, hu7⟩; have X7 := Lib.hid (X6.out.call hm7 hu7); obtain ⟨c7a, c7b, c7c, c7d, c7e, c7f, c7g, c7h, c7i, c7j, c7k, c7l, c7m⟩ := cell13w X7.out.blk; obtain ⟨z7a, z7b, z7c, z7d⟩ := X7.out.mem.cells; obtain ⟨hl7a, hl7b, hl7c⟩ := X7.out.lt; have fm7 := fun i => blk_frz X7.out.blk i; clear hm7)
    | (go_at_call 50; have _t := tk8; clear tk8 _t; (with_reducible refine (hW2.out _ _ X7.out.mem (by first | rfl | exact decide_eq_decide.2 (by omega))).use ?_); rintro v w8 ⟨rfl, hm8, hu8⟩; have X8 := Lib.hid (X7.out.call hm8 hu8); obtain ⟨c8a, c8b, c8c, c8d, c8e, c8f, c8g, c8h, c8i, c8j, c8k, c8l, c8m⟩ := cell13w X8.out.blk; obtain ⟨z8a, z8b, z8c, z8d⟩ := X8.out.mem.cells; obtain ⟨hl8a, hl8b, hl8c⟩ := X8.out.lt; have fm8 := fun i => blk_frz X8.out.blk i; clear hm8)
    | (with_reducible refine wp_serial (by kernel_rfl) (by kernel_rfl) (by repeat with_reducible (first | apply NoBad.then | apply NoBad.inBlock | apply NoBad.jump | exact NoBad.rets)) ?_) | fail)
  go_loopw [11] (fun i wr => ∃ (k : Nat) (rr : Rk) (l : List Qn) (ao : Option Addr) (cap : Nat), i = .int .i64 k ∧ k ≤ n0 ∧ l.length = k ∧ rr.p ≤ 70000 ∧ Hid (DI s w w1.heap.size #[.int .i64 (iD : Nat), .bool b1, .int .i64 (oP : Nat), .bool b3, .bool b4, .bool b5, .bool b6, .int .i64 (rC : Nat), .slice ao k cap, .slice none 0 0, .slice none 0 0, .slice none 0 0, .int .i64 0] rr wr) ∧ Hid (wr.ownsRow 0 41 2 (.slice ao k cap) k (l.flatMap Qn.cells)) ∧ Hid (∀ g, (Value.slice ao k cap).ownBlock = some g → w1.heap.size < g) ∧ Hid (Q = quF s (n0 - k) rr l)) (fun i _ => n0 - (intOf i).toNat)
  case atStart => exact ⟨0, r8, [], none, 0, rfl, Nat.zero_le _, rfl, hp8, Lib.hid X8.out, Lib.hid ⟨rfl, .inl ⟨rfl, rfl⟩⟩, Lib.hid (fun g hg => by simp [Value.ownBlock] at hg), Lib.hid hQ0.out⟩
  case round =>
    obtain ⟨k, rr, l, ao, cap, rfl, hkn, hll, hpp, hD, hown, hfre, hres⟩ := hrel
    obtain ⟨cDa, cDb, cDc, cDd, cDe, cDf, cDg, cDh, cDi, cDj, cDk, cDl, cDm⟩ := cell13w hD.out.blk
    obtain ⟨zDa, zDb, zDc, zDd⟩ := hD.out.mem.cells
    obtain ⟨hlDa, hlDb, hlDc⟩ := hD.out.lt
    have fmD := fun i => blk_frz hD.out.blk i
    by_cases hgo : k < n0 ∧ rr.e = 0
    · obtain ⟨hlt2, he⟩ := hgo
      obtain ⟨fu, hfu⟩ : ∃ fu, n0 - k = fu + 1 := ⟨n0 - (k + 1), by omega⟩
      have hf2 := Lib.hid (show n0 - (k + 1) = fu by omega)
      have hres1 := Lib.hid (show Q = quF s (fu + 1) rr l from hfu ▸ hres.out)
      have hlt3 : (k : Int) < (n0 : Int) := by omega
      clear hfu
      obtain ⟨nm, hnm⟩ : ∃ x, qhN s rr = x := ⟨_, rfl⟩
      obtain ⟨rA, hrA⟩ : ∃ x, qhA s rr = x := ⟨_, rfl⟩
      obtain ⟨ty, hty⟩ : ∃ x, qhT s rr = x := ⟨_, rfl⟩
      obtain ⟨rB, hrB⟩ : ∃ x, qhB s rr = x := ⟨_, rfl⟩
      obtain ⟨cl, hcl⟩ : ∃ x, qhC s rr = x := ⟨_, rfl⟩
      obtain ⟨rD, hrD⟩ : ∃ x, qhR s rr = x := ⟨_, rfl⟩
      have hpA : rA.p ≤ 70000 := by rw [← hrA]; exact (naR_fin hs hpp).2
      have hlN : nm.length < 255 := by rw [← hnm]; exact (naR_fin hs hpp).1
      have hpB : rB.p ≤ 70000 := by rw [← hrB, qhB, hrA]; exact takR_p s rA 2 hpA hs
      have hpC : rD.p ≤ 70000 := by rw [← hrD, qhR, hrB]; exact takR_p s rB 2 hpB hs
      have hM0 := Lib.hid (fun (w' : World) (h : RkM w' (w.heap.size + 1) s rr) => rname_dw (w.heap.size + 1) s rr w' h hs hpp)
      have e1 : (naR s rr).1 = nm := hnm
      have e2 : (naR s rr).2 = rA := hrA
      rw [e1, e2] at hM0
      have hM1 := Lib.hid (fun (w' : World) (h : RkM w' (w.heap.size + 1) s rA) => nu_w (w.heap.size + 1) s rA ty rB (by rw [← hty, qhT, hrA]) (by rw [← hrB, qhB, hrA]) w' h hs hpA)
      have hM2 := Lib.hid (fun (w' : World) (h : RkM w' (w.heap.size + 1) s rB) => nu_w (w.heap.size + 1) s rB cl rD (by rw [← hcl, qhC, hrB]) (by rw [← hrD, qhR, hrB]) w' h hs hpB)
      have hqw := Lib.hid (fun (w' : World) => question_w ⟨nm, (ty : Nat)⟩ (by show nm.length ≤ 5000; omega) w')
      obtain ⟨ok, hok⟩ : ∃ x, Qn.ok ⟨nm, (ty : Nat)⟩ = x := ⟨_, rfl⟩
      rw [hok] at hqw
      simp only [Qn.val] at hqw
      have hWq := Lib.hid (fun (is : Bool) (w' : World) (h : RkM w' (w.heap.size + 1) s rD) (hb : is = (decide (cl = 1) && ok)) => want_is (w.heap.size + 1) s rD is (decide (cl = 1) && ok) 2 (by decide) w' h hb)
      have hres2 := Lib.hid (show Q = quF s (n0 - (k + 1)) (rD.want (decide (cl = 1) && ok) 2) (l ++ [⟨nm, (ty : Nat)⟩]) from hres1.out.trans (by rw [hf2.out, quF, if_pos he, quK, hnm, hty, hcl, hrD, hok]))
      have hpE : (rD.want (decide (cl = 1) && ok) 2).p ≤ 70000 := by rw [Rk.want_p]; exact hpC
      obtain ⟨rE, hrE⟩ : ∃ x, rD.want (decide (cl = 1) && ok) 2 = x := ⟨_, rfl⟩
      rw [hrE] at hWq hres2 hpE
      clear hnm hrA hty hrB hcl hrD e1 e2 hok hrE
      obtain ⟨pp, ee⟩ := rr
      simp only [] at he
      subst he
      have tk1 : True := trivial
      have tk2 : True := trivial
      by_cases h1 : cl = 1
      · have h2 : (cl : Int) = 1 := by omega
        have h3 : ((cl : Int) == 1) = true := by exact beq_iff_eq.2 h2
        rw [decide_eq_true h1, Bool.true_and] at hWq
        subst h1
        go_wp2_with (first
          | (go_at_call 51; (with_reducible refine (hM0.out _ (hD.out.mem.to0 (by repeat first | with_reducible (first | exact Upd.refl _ _ | assumption | apply Upd.drew | apply Upd.alloc) | refine Upd0.tr ?_ (by with_reducible assumption) | refine Upd.setCell ?_ (fun h => absurd h (by first | exact Nat.lt_irrefl _ | (simp only []; omega))) _))).use ?_); rintro v v1 ⟨rfl, hm1, hu1⟩; have Y1 := Lib.hid (QI.new (nm := nm) hD.out hm1 hu1); have hlv1 := hm1.lt; clear hm1)
          | (go_at_call 49; have _t := tk1; clear tk1 _t; (with_reducible refine (hM1.out _ Y1.out.di.mem).use ?_); rintro v v2 ⟨rfl, hm2, hu2⟩; have Y2 := Lib.hid (Y1.out.call hm2 hu2); obtain ⟨q2a, q2b⟩ := cell2w Y2.out.blk; obtain ⟨c2a, c2b, c2c, c2d, c2e, c2f, c2g, c2h, c2i, c2j, c2k, c2l, c2m⟩ := cell13w Y2.out.di.blk; obtain ⟨z2a, z2b, z2c, z2d⟩ := Y2.out.di.mem.cells; obtain ⟨hl2a, hl2b, hl2c⟩ := Y2.out.di.lt; have hl2d := blk_lt Y2.out.blk; have hl2e := Y2.out.lo; have fm2 := fun i => blk_frz Y2.out.di.blk i; have fq2 := fun i => blk_frz Y2.out.blk i; clear hm2)
          | (go_at_call 49; have _t := tk2; clear tk2 _t; (with_reducible refine (hM2.out _ (Y2.out.set1 ty).di.mem).use ?_); rintro v v3 ⟨rfl, hm3, hu3⟩; have Y3 := Lib.hid ((Y2.out.set1 ty).call hm3 hu3); obtain ⟨q3a, q3b⟩ := cell2w Y3.out.blk; obtain ⟨c3a, c3b, c3c, c3d, c3e, c3f, c3g, c3h, c3i, c3j, c3k, c3l, c3m⟩ := cell13w Y3.out.di.blk; obtain ⟨z3a, z3b, z3c, z3d⟩ := Y3.out.di.mem.cells; obtain ⟨hl3a, hl3b, hl3c⟩ := Y3.out.di.lt; have hl3d := blk_lt Y3.out.blk; have hl3e := Y3.out.lo; have fm3 := fun i => blk_frz Y3.out.di.blk i; have fq3 := fun i => blk_frz Y3.out.blk i; clear hm3)
          | (go_at_call 44; (with_reducible refine (hqw.out _).use ?_); rintro v v4 ⟨rfl, hu4⟩; have Y4 := Lib.hid (Y3.out.up0 hu4); obtain ⟨q4a, q4b⟩ := cell2w Y4.out.blk; obtain ⟨c4a, c4b, c4c, c4d, c4e, c4f, c4g, c4h, c4i, c4j, c4k, c4l, c4m⟩ := cell13w Y4.out.di.blk; obtain ⟨z4a, z4b, z4c, z4d⟩ := Y4.out.di.mem.cells; obtain ⟨hl4a, hl4b, hl4c⟩ := Y4.out.di.lt; have hl4d := blk_lt Y4.out.blk; have hl4e := Y4.out.lo; have fm4 := fun i => blk_frz Y4.out.di.blk i; have fq4 := fun i => blk_frz Y4.out.blk i)
          | (go_at_call 50; (with_reducible refine (hWq.out _ _ Y4.out.di.mem rfl).use ?_); rintro v v5 ⟨rfl, hm5, hu5⟩; have Y5 := Lib.hid (Y4.out.call hm5 hu5); obtain ⟨q5a, q5b⟩ := cell2w Y5.out.blk; obtain ⟨c5a, c5b, c5c, c5d, c5e, c5f, c5g, c5h, c5i, c5j, c5k, c5l, c5m⟩ := cell13w Y5.out.di.blk; obtain ⟨z5a, z5b, z5c, z5d⟩ := Y5.out.di.mem.cells; obtain ⟨hl5a, hl5b, hl5c⟩ := Y5.out.di.lt; have hl5d := blk_lt Y5.out.blk; have hl5e := Y5.out.lo; have fm5 := fun i => blk_frz Y5.out.di.blk i; have fq5 := fun i => blk_frz Y5.out.blk i; clear hm5; have hrow5 := Lib.hid (ownsRow_upd hown.out Y5.out.upd (fun g hg e => by have := hfre.out g hg; omega)))
          | (at_builtin; refine wpList_app (w := v5) (by repeat first | exact Ext.refl _ | assumption | apply Ext.drew | apply Ext.alloc) rfl (.tmp 95) (.tmp 97) 22 rfl 41 i1 _ 2 24 Try.underlying22 hi1 hq0 hq1 hq2 rfl (by decide) _ _ _ hrow5.out rfl _ _ _ [.string ⟨nm.toArray⟩, .int .i64 ty] rfl rfl (alloc_last _ _ _ (by simp)) rfl (by omega) (by omega) ?_; intro ao2 cap2 v6 hrA huA hfA; have hrAh := Lib.hid hrA; have huAh := Lib.hid huA; have hfAh := Lib.hid hfA; have hne6 := Lib.hid (fun g (hg : (Value.slice ao k cap).ownBlock = some g) => hfre.out g hg); have Z6 := Lib.hid (dec_app Y5.out.di (Y5.out.upd.size) hfre.out huAh.out); obtain ⟨c6a, c6b, c6c, c6d, c6e, c6f, c6g, c6h, c6i, c6j, c6k, c6l, c6m⟩ := cell13w Z6.out.blk; obtain ⟨hl6a, hl6b, hl6c⟩ := Z6.out.lt; have fm6 := fun i => blk_frz Z6.out.blk i; clear hrA huA hfA)
          | (with_reducible refine wp_serial (by kernel_rfl) (by kernel_rfl) (by repeat with_reducible (first | apply NoBad.then | apply NoBad.inBlock | apply NoBad.jump | exact NoBad.rets)) ?_) | fail)
        go_roundw
        case rel =>
          have hfr := dec_fre hfAh.out hfre.out (show w1.heap.size < (v5.alloc _).heap.size by simp; omega)
          exact ⟨k + 1, rE, l ++ [⟨nm, (ty : Nat)⟩], ao2, cap2, by go_num, hlt2, by simp [hll], hpE, Lib.hid ((Z6.out.set 8 (.slice ao2 (k + 1) cap2)).as (by simp)), Lib.hid (dec_row (by simpa [Qn.cells] using hrAh.out) hfr _ _), Lib.hid hfr, Lib.hid hres2.out⟩
        case measure => simp [intOf]; omega
      · have h2 : ¬ (cl : Int) = 1 := by omega
        have h3 : ((cl : Int) == 1) = false := by exact beq_eq_false_iff_ne.2 h2
        rw [decide_eq_false h1, Bool.false_and] at hWq
        go_wp2_with (first
          | (go_at_call 51; (with_reducible refine (hM0.out _ (hD.out.mem.to0 (by repeat first | with_reducible (first | exact Upd.refl _ _ | assumption | apply Upd.drew | apply Upd.alloc) | refine Upd0.tr ?_ (by with_reducible assumption) | refine Upd.setCell ?_ (fun h => absurd h (by first | exact Nat.lt_irrefl _ | (simp only []; omega))) _))).use ?_); rintro v v1 ⟨rfl, hm1, hu1⟩; have Y1 := Lib.hid (QI.new (nm := nm) hD.out hm1 hu1); have hlv1 := hm1.lt; clear hm1)
          | (go_at_call 49; have _t := tk1; clear tk1 _t; (with_reducible refine (hM1.out _ Y1.out.di.mem).use ?_); rintro v v2 ⟨rfl, hm2, hu2⟩; have Y2 := Lib.hid (Y1.out.call hm2 hu2); obtain ⟨q2a, q2b⟩ := cell2w Y2.out.blk; obtain ⟨c2a, c2b, c2c, c2d, c2e, c2f, c2g, c2h, c2i, c2j, c2k, c2l, c2m⟩ := cell13w Y2.out.di.blk; obtain ⟨z2a, z2b, z2c, z2d⟩ := Y2.out.di.mem.cells; obtain ⟨hl2a, hl2b, hl2c⟩ := Y2.out.di.lt; have hl2d := blk_lt Y2.out.blk; have hl2e := Y2.out.lo; have fm2 := fun i => blk_frz Y2.out.di.blk i; have fq2 := fun i => blk_frz Y2.out.blk i; clear hm2)
          | (go_at_call 49; have _t := tk2; clear tk2 _t; (with_reducible refine (hM2.out _ (Y2.out.set1 ty).di.mem).use ?_); rintro v v3 ⟨rfl, hm3, hu3⟩; have Y3 := Lib.hid ((Y2.out.set1 ty).call hm3 hu3); obtain ⟨q3a, q3b⟩ := cell2w Y3.out.blk; obtain ⟨c3a, c3b, c3c, c3d, c3e, c3f, c3g, c3h, c3i, c3j, c3k, c3l, c3m⟩ := cell13w Y3.out.di.blk; obtain ⟨z3a, z3b, z3c, z3d⟩ := Y3.out.di.mem.cells; obtain ⟨hl3a, hl3b, hl3c⟩ := Y3.out.di.lt; have hl3d := blk_lt Y3.out.blk; have hl3e := Y3.out.lo; have fm3 := fun i => blk_frz Y3.out.di.blk i; have fq3 := fun i => blk_frz Y3.out.blk i; clear hm3)
          | (go_at_call 50; (with_reducible refine (hWq.out _ _ Y3.out.di.mem rfl).use ?_); rintro v v5 ⟨rfl, hm5, hu5⟩; have Y5 := Lib.hid (Y3.out.call hm5 hu5); obtain ⟨q5a, q5b⟩ := cell2w Y5.out.blk; obtain ⟨c5a, c5b, c5c, c5d, c5e, c5f, c5g, c5h, c5i, c5j, c5k, c5l, c5m⟩ := cell13w Y5.out.di.blk; obtain ⟨z5a, z5b, z5c, z5d⟩ := Y5.out.di.mem.cells; obtain ⟨hl5a, hl5b, hl5c⟩ := Y5.out.di.lt; have hl5d := blk_lt Y5.out.blk; have hl5e := Y5.out.lo; have fm5 := fun i => blk_frz Y5.out.di.blk i; have fq5 := fun i => blk_frz Y5.out.blk i; clear hm5; have hrow5 := Lib.hid (ownsRow_upd hown.out Y5.out.upd (fun g hg e => by have := hfre.out g hg; omega)))
          | (at_builtin; refine wpList_app (w := v5) (by repeat first | exact Ext.refl _ | assumption | apply Ext.drew | apply Ext.alloc) rfl (.tmp 95) (.tmp 97) 22 rfl 41 i1 _ 2 24 Try.underlying22 hi1 hq0 hq1 hq2 rfl (by decide) _ _ _ hrow5.out rfl _ _ _ [.string ⟨nm.toArray⟩, .int .i64 ty] rfl rfl (alloc_last _ _ _ (by simp)) rfl (by omega) (by omega) ?_; intro ao2 cap2 v6 hrA huA hfA; have hrAh := Lib.hid hrA; have huAh := Lib.hid huA; have hfAh := Lib.hid hfA; have hne6 := Lib.hid (fun g (hg : (Value.slice ao k cap).ownBlock = some g) => hfre.out g hg); have Z6 := Lib.hid (dec_app Y5.out.di (Y5.out.upd.size) hfre.out huAh.out); obtain ⟨c6a, c6b, c6c, c6d, c6e, c6f, c6g, c6h, c6i, c6j, c6k, c6l, c6m⟩ := cell13w Z6.out.blk; obtain ⟨hl6a, hl6b, hl6c⟩ := Z6.out.lt; have fm6 := fun i => blk_frz Z6.out.blk i; clear hrA huA hfA)
          | (with_reducible refine wp_serial (by kernel_rfl) (by kernel_rfl) (by repeat with_reducible (first | apply NoBad.then | apply NoBad.inBlock | apply NoBad.jump | exact NoBad.rets)) ?_) | fail)
        go_roundw
        case rel =>
          have hfr := dec_fre hfAh.out hfre.out (show w1.heap.size < (v5.alloc _).heap.size by simp; omega)
          exact ⟨k + 1, rE, l ++ [⟨nm, (ty : Nat)⟩], ao2, cap2, by go_num, hlt2, by simp [hll], hpE, Lib.hid ((Z6.out.set 8 (.slice ao2 (k + 1) cap2)).as (by simp)), Lib.hid (dec_row (by simpa [Qn.cells] using hrAh.out) hfr _ _), Lib.hid hfr, Lib.hid hres2.out⟩
        case measure => simp [intOf]; omega
    · have hQe : Q = (l, rr) := by
        by_cases h1 : k < n0
        · have h2 : ¬ rr.e = 0 := fun e => hgo ⟨h1, e⟩
          obtain ⟨fu, hfu⟩ : ∃ fu, n0 - k = fu + 1 := ⟨n0 - (k + 1), by omega⟩
          have := hres.out
          rw [hfu, quF, if_neg h2] at this
          exact this
        · have := hres.out
          rw [show n0 - k = 0 by omega, quF] at this
          exact this
      subst hQe
      have hrowQ := Lib.hid (own_qsr hown.out hll.symm)
      obtain ⟨A, hA⟩ : ∃ A, dcA s = A := ⟨_, rfl⟩
      obtain ⟨U, hU⟩ : ∃ A, dcU s = A := ⟨_, rfl⟩
      obtain ⟨Xx, hX⟩ : ∃ A, dcX s = A := ⟨_, rfl⟩
      have hA1 := hA0.out
      have hU1 := hU0.out
      have hX1 := hX0.out
      have hMG1 := hMG.out
      have hE1 : dcE s = (dcX s).2.want (decide ((dcX s).2.p = s.length)) 2 := rfl
      rw [hA] at hA1
      rw [hU, hA] at hU1
      rw [hX, hU] at hX1
      rw [hX] at hE1
      rw [hA, hU, hX] at hMG1
      have hAw := Lib.hid (fun (w' : World) (h : RkM w' (w.heap.size + 1) s rr) => recs_w (w.heap.size + 1) s rr n1 false w' h hs hpp (by omega))
      have hpA : A.2.p ≤ 70000 := by rw [hA1]; exact rcR_p hs hpp _ _
      rw [← hA1] at hAw
      have hUw := Lib.hid (fun (w' : World) (h : RkM w' (w.heap.size + 1) s A.2) => recs_w (w.heap.size + 1) s A.2 n2 false w' h hs hpA (by omega))
      have hpU : U.2.p ≤ 70000 := by rw [hU1]; exact rcR_p hs hpA _ _
      rw [← hU1] at hUw
      have hXw := Lib.hid (fun (w' : World) (h : RkM w' (w.heap.size + 1) s U.2) => recs_w (w.heap.size + 1) s U.2 n3 true w' h hs hpU (by omega))
      have hpX : Xx.2.p ≤ 70000 := by rw [hX1]; exact rcR_p hs hpU _ _
      rw [← hX1] at hXw
      clear hA1 hU1 hX1 hA hU hX
      obtain ⟨⟨an, az⟩, rA⟩ := A
      obtain ⟨⟨ns, uz⟩, rU⟩ := U
      obtain ⟨⟨ex, xz⟩, rX⟩ := Xx
      simp only [] at hAw hUw hXw hMG1 hE1 hpA hpU hpX
      have hMh := Lib.hid hMG1
      have hEh := Lib.hid hE1
      clear hMG1 hE1
      have hEw := Lib.hid (fun (is : Bool) (w' : World) (h : RkM w' (w.heap.size + 1) s rX) (hb : is = decide (rX.p = s.length)) => want_is (w.heap.size + 1) s rX is (decide (rX.p = s.length)) 2 (by decide) w' h hb)
      rw [← hEh.out] at hEw
      have hpl := eqI rX.p s.length s.length rfl
      have hgo2 : ¬ k < n0 ∨ (k < n0 ∧ ¬ rr.e = 0) := by
        by_cases h1 : k < n0
        · exact .inr ⟨h1, fun e => hgo ⟨h1, e⟩⟩
        · exact .inl h1
      clear hgo hres
      have hmsg := Lib.hid (show (dcE s).e = 0 → decM s = ⟨(iD : Nat), b1, (oP : Nat), b3, b4, b5, b6, (rC : Nat), l, an, ns, ex, (xz : Nat)⟩ from fun h => by rw [decM, if_pos h, hMh.out])
      have hmsz := Lib.hid (show ¬ (dcE s).e = 0 → decM s = msgZ0 from fun h => by rw [decM, if_neg h])
      obtain ⟨E, hE⟩ : ∃ E, dcE s = E := ⟨_, rfl⟩
      obtain ⟨M, hM⟩ : ∃ M, decM s = M := ⟨_, rfl⟩
      have hgoal : ∀ v w', DecR s w M E v w' → DecQ s w v w' := fun v w' h => by rw [DecQ, hM, hE]; exact h
      rw [hE] at hEw hmsg hmsz
      rw [hM] at hmsg hmsz
      clear hE hM hMh hEh
      obtain ⟨pE, eE⟩ := E
      simp only [] at hEw hmsg hmsz
      have tk1 : True := trivial
      have tk2 : True := trivial
      have tk3 : True := trivial
      by_cases hE0 : eE = 0
      · subst hE0
        rw [hmsg.out rfl] at hgoal
        rcases hgo2 with hg | ⟨hg, hge⟩
        all_goals
          go_wp2_with (first
            | ((show Go.bodyPost _ _ _ Go.Exit.ret _ _); refine bodyPost_ret (res_dec Try.results23 rfl hfinh.out) rfl ?_; refine hgoal _ _ ?_)
            | ((show Go.wpList _ _ _ (Go.Oper.mk _ (Go.Op.store _ (Go.Operand.tmp 2) _) _ _ _ _ :: _) _ _); with_reducible refine wpList_store_rowTo rfl 25 (.tmp 2) (.tmp 137) rfl rfl w.heap.size #[.int .i64 (iD : Nat), .bool b1, .int .i64 (oP : Nat), .bool b3, .bool b4, .bool b5, .bool b6, .int .i64 (rC : Nat), .slice ao k cap, .slice a9 an.length ca9, .slice a10 ns.length ca10, .slice a11 ex.length ca11, .int .i64 (xz : Nat)] rfl rfl 25 _ (X12.out.up0 (by repeat first | with_reducible (first | exact Upd.refl _ _ | assumption | apply Upd.drew | apply Upd.alloc) | refine Upd0.tr ?_ (by with_reducible assumption) | refine Upd.setCell ?_ (fun h => absurd h (by first | exact Nat.lt_irrefl _ | (simp only []; omega))) _)).zer (by kernel_rfl) (by kernel_rfl) (by kernel_rfl) ?_; generalize hwF : World.setRow _ _ _ = wF; obtain ⟨hfin, hup⟩ := st_row (X12.out.up0 (by repeat first | with_reducible (first | exact Upd.refl _ _ | assumption | apply Upd.drew | apply Upd.alloc) | refine Upd0.tr ?_ (by with_reducible assumption) | refine Upd.setCell ?_ (fun h => absurd h (by first | exact Nat.lt_irrefl _ | (simp only []; omega))) _)).zer hwF; have zFc := hup.cell (p := ⟨w.heap.size + 1, 2, none⟩) (show ¬ w.heap.size + 1 = w.heap.size by omega) (X12.out.up0 (by repeat first | with_reducible (first | exact Upd.refl _ _ | assumption | apply Upd.drew | apply Upd.alloc) | refine Upd0.tr ?_ (by with_reducible assumption) | refine Upd.setCell ?_ (fun h => absurd h (by first | exact Nat.lt_irrefl _ | (simp only []; omega))) _)).mem.cells.2.2.1; clear hwF; have hfinh := Lib.hid hfin; have huph := Lib.hid hup; clear hfin hup)
            | (go_at_call 52; have _t := tk1; clear tk1 _t; (with_reducible refine (hAw.out _ (hD.out.mem.to0 (by repeat first | with_reducible (first | exact Upd.refl _ _ | assumption | apply Upd.drew | apply Upd.alloc) | refine Upd0.tr ?_ (by with_reducible assumption) | refine Upd.setCell ?_ (fun h => absurd h (by first | exact Nat.lt_irrefl _ | (simp only []; omega))) _))).use ?_); rintro v w9 ⟨a9, ca9, rfl, hra9, hm9, hu9, hfa9⟩; have hra9h := Lib.hid hra9; have hfa9h := Lib.hid hfa9; have X9 := Lib.hid (hD.out.call hm9 hu9); obtain ⟨c9a, c9b, c9c, c9d, c9e, c9f, c9g, c9h, c9i, c9j, c9k, c9l, c9m⟩ := cell13w X9.out.blk; obtain ⟨z9a, z9b, z9c, z9d⟩ := X9.out.mem.cells; obtain ⟨hl9a, hl9b, hl9c⟩ := X9.out.lt; have fm9 := fun i => blk_frz X9.out.blk i; clear hm9 hra9 hfa9)
            | (go_at_call 52; have _t := tk2; clear tk2 _t; (with_reducible refine (hUw.out _ (X9.out.set 9 (.slice a9 an.length ca9)).mem).use ?_); rintro v w10 ⟨a10, ca10, rfl, hra10, hm10, hu10, hfa10⟩; have hra10h := Lib.hid hra10; have hfa10h := Lib.hid hfa10; have X10 := Lib.hid (show DI s w w1.heap.size #[.int .i64 (iD : Nat), .bool b1, .int .i64 (oP : Nat), .bool b3, .bool b4, .bool b5, .bool b6, .int .i64 (rC : Nat), .slice ao k cap, .slice a9 an.length ca9, .slice none 0 0, .slice none 0 0, .int .i64 0] rU w10 from ((X9.out.set 9 (.slice a9 an.length ca9)).call hm10 hu10).as (by simp)); obtain ⟨c10a, c10b, c10c, c10d, c10e, c10f, c10g, c10h, c10i, c10j, c10k, c10l, c10m⟩ := cell13w X10.out.blk; obtain ⟨z10a, z10b, z10c, z10d⟩ := X10.out.mem.cells; obtain ⟨hl10a, hl10b, hl10c⟩ := X10.out.lt; have fm10 := fun i => blk_frz X10.out.blk i; clear hm10 hra10 hfa10)
            | (go_at_call 52; have _t := tk3; clear tk3 _t; (with_reducible refine (hXw.out _ (X10.out.set 10 (.slice a10 ns.length ca10)).mem).use ?_); rintro v w11 ⟨a11, ca11, rfl, hra11, hm11, hu11, hfa11⟩; have hra11h := Lib.hid hra11; have hfa11h := Lib.hid hfa11; have X11 := Lib.hid (show DI s w w1.heap.size #[.int .i64 (iD : Nat), .bool b1, .int .i64 (oP : Nat), .bool b3, .bool b4, .bool b5, .bool b6, .int .i64 (rC : Nat), .slice ao k cap, .slice a9 an.length ca9, .slice a10 ns.length ca10, .slice none 0 0, .int .i64 0] rX w11 from ((X10.out.set 10 (.slice a10 ns.length ca10)).call hm11 hu11).as (by simp)); obtain ⟨c11a, c11b, c11c, c11d, c11e, c11f, c11g, c11h, c11i, c11j, c11k, c11l, c11m⟩ := cell13w X11.out.blk; obtain ⟨z11a, z11b, z11c, z11d⟩ := X11.out.mem.cells; obtain ⟨hl11a, hl11b, hl11c⟩ := X11.out.lt; have fm11 := fun i => blk_frz X11.out.blk i; clear hm11 hra11 hfa11)
            | (go_at_call 50; (with_reducible refine (hEw.out _ _ ((X11.out.set 11 (.slice a11 ex.length ca11)).set 12 (.int .i64 (xz : Nat))).mem rfl).use ?_); rintro v w12 ⟨rfl, hm12, hu12⟩; have X12 := Lib.hid (show DI s w w1.heap.size #[.int .i64 (iD : Nat), .bool b1, .int .i64 (oP : Nat), .bool b3, .bool b4, .bool b5, .bool b6, .int .i64 (rC : Nat), .slice ao k cap, .slice a9 an.length ca9, .slice a10 ns.length ca10, .slice a11 ex.length ca11, .int .i64 (xz : Nat)] _ w12 from (((X11.out.set 11 (.slice a11 ex.length ca11)).set 12 (.int .i64 (xz : Nat))).call hm12 hu12).as (by simp)); obtain ⟨c12a, c12b, c12c, c12d, c12e, c12f, c12g, c12h, c12i, c12j, c12k, c12l, c12m⟩ := cell13w X12.out.blk; obtain ⟨z12a, z12b, z12c, z12d⟩ := X12.out.mem.cells; obtain ⟨hl12a, hl12b, hl12c⟩ := X12.out.lt; have fm12 := fun i => blk_frz X12.out.blk i; have hzr := fun i => blk_frz X12.out.zer i; clear hm12)
            | (with_reducible refine wp_serial (by kernel_rfl) (by kernel_rfl) (by repeat with_reducible (first | apply NoBad.then | apply NoBad.inBlock | apply NoBad.jump | exact NoBad.rets)) ?_) | fail)
          have hrows := dec_rows (by omega) (by omega) hu9 hu10 hu11 hu12 huph.out hrowQ.out hfre.out hra9h.out (fun g o e => by have := hfa9h.out g o e; omega) hra10h.out (fun g o e => by have := hfa10h.out g o e; simp at this; omega) hra11h.out (fun g o e => by have := hfa11h.out g o e; simp at this; omega)
          exact ⟨ao, a9, a10, a11, cap, ca9, ca10, ca11, by simp only [Msg.val, hll], ⟨hrows.1, hrows.2.1, hrows.2.2.1, hrows.2.2.2⟩, Upd.trans X12.out.upd huph.out (fun n hn e => by omega)⟩
      · rw [hmsz.out hE0] at hgoal
        rcases hgo2 with hg | ⟨hg, hge⟩
        all_goals
          go_wp2_with (first
            | ((show Go.bodyPost _ _ _ Go.Exit.ret _ _); refine bodyPost_ret (res_dec Try.results23 rfl hfinh.out) rfl ?_; refine hgoal _ _ ?_)
            | ((show Go.wpList _ _ _ (Go.Oper.mk _ (Go.Op.store _ (Go.Operand.tmp 2) _) _ _ _ _ :: _) _ _); with_reducible refine wpList_store_rowTo rfl 25 (.tmp 2) (.tmp 132) rfl rfl w.heap.size #[.int .i64 0, .bool false, .int .i64 0, .bool false, .bool false, .bool false, .bool false, .int .i64 0, .slice none 0 0, .slice none 0 0, .slice none 0 0, .slice none 0 0, .int .i64 0] rfl rfl 25 _ (X12.out.up0 (by repeat first | with_reducible (first | exact Upd.refl _ _ | assumption | apply Upd.drew | apply Upd.alloc) | refine Upd0.tr ?_ (by with_reducible assumption) | refine Upd.setCell ?_ (fun h => absurd h (by first | exact Nat.lt_irrefl _ | (simp only []; omega))) _)).zer (by kernel_rfl) (by kernel_rfl) (by kernel_rfl) ?_; generalize hwF : World.setRow _ _ _ = wF; obtain ⟨hfin, hup⟩ := st_row (X12.out.up0 (by repeat first | with_reducible (first | exact Upd.refl _ _ | assumption | apply Upd.drew | apply Upd.alloc) | refine Upd0.tr ?_ (by with_reducible assumption) | refine Upd.setCell ?_ (fun h => absurd h (by first | exact Nat.lt_irrefl _ | (simp only []; omega))) _)).zer hwF; have zFc := hup.cell (p := ⟨w.heap.size + 1, 2, none⟩) (show ¬ w.heap.size + 1 = w.heap.size by omega) (X12.out.up0 (by repeat first | with_reducible (first | exact Upd.refl _ _ | assumption | apply Upd.drew | apply Upd.alloc) | refine Upd0.tr ?_ (by with_reducible assumption) | refine Upd.setCell ?_ (fun h => absurd h (by first | exact Nat.lt_irrefl _ | (simp only []; omega))) _)).mem.cells.2.2.1; clear hwF; have hfinh := Lib.hid hfin; have huph := Lib.hid hup; clear hfin hup)
            | (go_at_call 52; have _t := tk1; clear tk1 _t; (with_reducible refine (hAw.out _ (hD.out.mem.to0 (by repeat first | with_reducible (first | exact Upd.refl _ _ | assumption | apply Upd.drew | apply Upd.alloc) | refine Upd0.tr ?_ (by with_reducible assumption) | refine Upd.setCell ?_ (fun h => absurd h (by first | exact Nat.lt_irrefl _ | (simp only []; omega))) _))).use ?_); rintro v w9 ⟨a9, ca9, rfl, hra9, hm9, hu9, hfa9⟩; have hra9h := Lib.hid hra9; have hfa9h := Lib.hid hfa9; have X9 := Lib.hid (hD.out.call hm9 hu9); obtain ⟨c9a, c9b, c9c, c9d, c9e, c9f, c9g, c9h, c9i, c9j, c9k, c9l, c9m⟩ := cell13w X9.out.blk; obtain ⟨z9a, z9b, z9c, z9d⟩ := X9.out.mem.cells; obtain ⟨hl9a, hl9b, hl9c⟩ := X9.out.lt; have fm9 := fun i => blk_frz X9.out.blk i; clear hm9 hra9 hfa9)
            | (go_at_call 52; have _t := tk2; clear tk2 _t; (with_reducible refine (hUw.out _ (X9.out.set 9 (.slice a9 an.length ca9)).mem).use ?_); rintro v w10 ⟨a10, ca10, rfl, hra10, hm10, hu10, hfa10⟩; have hra10h := Lib.hid hra10; have hfa10h := Lib.hid hfa10; have X10 := Lib.hid (show DI s w w1.heap.size #[.int .i64 (iD : Nat), .bool b1, .int .i64 (oP : Nat), .bool b3, .bool b4, .bool b5, .bool b6, .int .i64 (rC : Nat), .slice ao k cap, .slice a9 an.length ca9, .slice none 0 0, .slice none 0 0, .int .i64 0] rU w10 from ((X9.out.set 9 (.slice a9 an.length ca9)).call hm10 hu10).as (by simp)); obtain ⟨c10a, c10b, c10c, c10d, c10e, c10f, c10g, c10h, c10i, c10j, c10k, c10l, c10m⟩ := cell13w X10.out.blk; obtain ⟨z10a, z10b, z10c, z10d⟩ := X10.out.mem.cells; obtain ⟨hl10a, hl10b, hl10c⟩ := X10.out.lt; have fm10 := fun i => blk_frz X10.out.blk i; clear hm10 hra10 hfa10)
            | (go_at_call 52; have _t := tk3; clear tk3 _t; (with_reducible refine (hXw.out _ (X10.out.set 10 (.slice a10 ns.length ca10)).mem).use ?_); rintro v w11 ⟨a11, ca11, rfl, hra11, hm11, hu11, hfa11⟩; have hra11h := Lib.hid hra11; have hfa11h := Lib.hid hfa11; have X11 := Lib.hid (show DI s w w1.heap.size #[.int .i64 (iD : Nat), .bool b1, .int .i64 (oP : Nat), .bool b3, .bool b4, .bool b5, .bool b6, .int .i64 (rC : Nat), .slice ao k cap, .slice a9 an.length ca9, .slice a10 ns.length ca10, .slice none 0 0, .int .i64 0] rX w11 from ((X10.out.set 10 (.slice a10 ns.length ca10)).call hm11 hu11).as (by simp)); obtain ⟨c11a, c11b, c11c, c11d, c11e, c11f, c11g, c11h, c11i, c11j, c11k, c11l, c11m⟩ := cell13w X11.out.blk; obtain ⟨z11a, z11b, z11c, z11d⟩ := X11.out.mem.cells; obtain ⟨hl11a, hl11b, hl11c⟩ := X11.out.lt; have fm11 := fun i => blk_frz X11.out.blk i; clear hm11 hra11 hfa11)
            | (go_at_call 50; (with_reducible refine (hEw.out _ _ ((X11.out.set 11 (.slice a11 ex.length ca11)).set 12 (.int .i64 (xz : Nat))).mem rfl).use ?_); rintro v w12 ⟨rfl, hm12, hu12⟩; have X12 := Lib.hid (show DI s w w1.heap.size #[.int .i64 (iD : Nat), .bool b1, .int .i64 (oP : Nat), .bool b3, .bool b4, .bool b5, .bool b6, .int .i64 (rC : Nat), .slice ao k cap, .slice a9 an.length ca9, .slice a10 ns.length ca10, .slice a11 ex.length ca11, .int .i64 (xz : Nat)] _ w12 from (((X11.out.set 11 (.slice a11 ex.length ca11)).set 12 (.int .i64 (xz : Nat))).call hm12 hu12).as (by simp)); obtain ⟨c12a, c12b, c12c, c12d, c12e, c12f, c12g, c12h, c12i, c12j, c12k, c12l, c12m⟩ := cell13w X12.out.blk; obtain ⟨z12a, z12b, z12c, z12d⟩ := X12.out.mem.cells; obtain ⟨hl12a, hl12b, hl12c⟩ := X12.out.lt; have fm12 := fun i => blk_frz X12.out.blk i; have hzr := fun i => blk_frz X12.out.zer i; clear hm12)
            | (with_reducible refine wp_serial2 4 5 [0,5,1,2,3,4,6] [_, _, _, _, _, _, _] (by kernel_rfl) (by decide +kernel) rfl (by repeat with_reducible (first | apply NoBad.then | apply NoBad.inBlock | apply NoBad.jump | exact NoBad.rets)) ?_ ?_)
            | (with_reducible refine wp_serial (by kernel_rfl) (by kernel_rfl) (by repeat with_reducible (first | apply NoBad.then | apply NoBad.inBlock | apply NoBad.jump | exact NoBad.rets)) ?_) | fail)
          all_goals
            try (refine bodyPost_ret (res_dec Try.results23 rfl hfinh.out) rfl ?_; refine hgoal _ _ ?_)
            exact ⟨none, none, none, none, 0, 0, 0, 0, rfl, ⟨.inl rfl, .inl rfl, .inl rfl, .inl rfl⟩, Upd.trans (X12.out.up0 (by repeat first | with_reducible (first | exact Upd.refl _ _ | assumption | apply Upd.drew | apply Upd.alloc) | refine Upd0.tr ?_ (by with_reducible assumption) | refine Upd.setCell ?_ (fun h => absurd h (by first | exact Nat.lt_irrefl _ | (simp only []; omega))) _)).upd huph.out (fun n hn e => by omega)⟩
end Go.Proofs.Ytgdejgfmhndbhaa
