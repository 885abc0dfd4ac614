/-
  The document's writer of messages in memory; text, number, bit.
-/
import Derived.Test.YtgdejgfmhndbhaaWrM
namespace Go.Proofs.Ytgdejgfmhndbhaa
open Go.RowKit Go.Maps
set_option linter.unusedSimpArgs false
set_option linter.unusedVariables false
variable {B : Nat}
def plcC (p : Bs × Nat) : List Value := [.string ⟨p.1.toArray⟩, .int .i64 (p.2 : Nat)]
theorem plcC_len (p : Bs × Nat) : (plcC p).length = 2 := rfl
def plc (pl : List (Bs × Nat)) : List Value := pl.flatMap plcC
theorem plc_app (a b : List (Bs × Nat)) : plc (a ++ b) = plc a ++ plc b := by simp [plc]
structure RfI (B : Nat) (W : World) (t : Nat) (s : Wr) (v pv : Value) : Prop where
  blk : W.heap[t]? = some (.cells #[v, pv] 68 (0, 0))
  row : BR 5 B W v s.b
  pls : W.ownsRow B 98 2 pv s.pl.length (plc s.pl)
  lo : B ≤ t ∧ ∀ k, v.ownBlock = some k → B ≤ k
def RfM (B : Nat) (W : World) (t : Nat) (s : Wr) : Prop := ∃ v pv, RfI B W t s v pv
def kindF : Option Obj → Bool
  | some (.cells _ t _) => decide (t = 68) || decide (t = 5) || decide (t = 98)
  | _ => false
def UpdF (B : Nat) (w w' : World) : Prop := Upd (fun b => B ≤ b ∧ kindF w.heap[b]? = true) w w'
theorem UpdF.of0 {w w' : World} (h : Upd0 w w') : UpdF B w w' := h.mono (fun _ _ h => h.elim)
theorem UpdF.refl (w : World) : UpdF B w w := UpdF.of0 (Upd.refl _ _)
theorem UpdF.tr {w w' w'' : World} (h : UpdF B w w') (k : UpdF B w' w'') : UpdF B w w'' := by
  refine Upd.trans h k fun n hn hs => ?_
  by_cases he : kindF w.heap[n]? = true
  · exact ⟨hs.1, he⟩
  · have := h.keep n hn (fun h => he h.2)
    rw [this] at hs
    exact hs
theorem UpdF.fin {w0 w w' : World} (h : Upd0 w0 w) (k : UpdF w0.heap.size w w') : Upd0 w0 w' := Upd.trans h k fun n hn hs => by have := hs.1; omega
theorem UpdF.other {w w' : World} (h : UpdF B w w') {n : Nat} {c : Array Value} {T : TypeId} {f : Nat × Nat} (hb : w.heap[n]? = some (.cells c T f)) (hT : (decide (T = 68) || decide (T = 5) || decide (T = 98)) = false) : w'.heap[n]? = some (.cells c T f) :=
  h.block (fun hs => by have := hs.2; rw [hb] at this; simp only [kindF] at this; rw [hT] at this; cases this) hb
theorem UpdF.old {w w' : World} (h : UpdF B w w') {p : Addr} {v : Value} (hp : p.block < B) (hv : w.cell? p = some v) : w'.cell? p = some v := h.cell (fun hs => by have := hs.1; omega) hv
theorem own_ty {w : World} {B : Nat} {e : TypeId} {s n : Nat} {v : Value} {xs : List Value} (h : w.ownsRow B e s v n xs) {g : Nat} (hg : v.ownBlock = some g) : ∃ cur, w.heap[g]? = some (.cells cur e (0, 0)) := by
  rcases h.2 with ⟨rfl, _⟩ | ⟨g', cap, cur, rfl, _, hgg, _⟩
  · cases hg
  · simp [Value.ownBlock] at hg
    subst hg
    exact ⟨cur, hgg⟩
theorem br_ty {w : World} {B : Nat} {e : TypeId} {v : Value} {l : Bs} (h : BR e B w v l) {g : Nat} (hg : v.ownBlock = some g) : ∃ cur fz, w.heap[g]? = some (.cells cur e fz) := by
  rcases h with ⟨rfl, _⟩ | ⟨g', cap, cur, fz, rfl, _, hgg, _⟩
  · cases hg
  · simp [Value.ownBlock] at hg
    subst hg
    exact ⟨cur, fz, hgg⟩
theorem RfI.ne {w : World} {t : Nat} {s : Wr} {v pv : Value} (h : RfI B w t s v pv) : v.ownBlock ≠ some t ∧ pv.ownBlock ≠ some t ∧ ∀ k, v.ownBlock = some k → pv.ownBlock ≠ some k := by
  refine ⟨fun e => ?_, fun e => ?_, fun k hk e => ?_⟩
  · obtain ⟨cur, fz, hc⟩ := br_ty h.row e
    rw [h.blk] at hc; cases hc
  · obtain ⟨cur, hc⟩ := own_ty h.pls e
    rw [h.blk] at hc; cases hc
  · obtain ⟨cur, fz, hc⟩ := br_ty h.row hk
    obtain ⟨cur', hc'⟩ := own_ty h.pls e
    rw [hc] at hc'; cases hc'
theorem RfI.kinds {w : World} {t : Nat} {s : Wr} {v pv : Value} (h : RfI B w t s v pv) : (B ≤ t ∧ kindF w.heap[t]? = true) ∧ (∀ k, v.ownBlock = some k → B ≤ k ∧ kindF w.heap[k]? = true) ∧ ∀ k, pv.ownBlock = some k → B ≤ k ∧ kindF w.heap[k]? = true := by
  refine ⟨⟨h.lo.1, by rw [h.blk]; rfl⟩, fun k hk => ⟨h.lo.2 k hk, ?_⟩, fun k hk => ⟨(h.pls.lt k hk).1, ?_⟩⟩
  · obtain ⟨cur, fz, hc⟩ := br_ty h.row hk
    rw [hc]; rfl
  · obtain ⟨cur, hc⟩ := own_ty h.pls hk
    rw [hc]; rfl
theorem RfI.to0 {w w' : World} {t : Nat} {s : Wr} {v pv : Value} (h : RfI B w t s v pv) (k : Upd0 w w') : RfI B w' t s v pv :=
  ⟨k.block (fun h => h) h.blk, h.row.up k, ownsRow_upd h.pls k (fun _ _ h => h), h.lo⟩
theorem RfM.to0 {w w' : World} {t : Nat} {s : Wr} (h : RfM B w t s) (k : Upd0 w w') : RfM B w' t s := by
  obtain ⟨v, pv, h2⟩ := h
  exact ⟨v, pv, h2.to0 k⟩
theorem RfM.hB {w : World} {t : Nat} {s : Wr} (h : RfM B w t s) : B ≤ w.heap.size := by
  obtain ⟨v, pv, h2⟩ := h
  have := blk_lt h2.blk
  have := h2.lo.1
  omega
theorem RfI.put {w w1 : World} {t : Nat} {s : Wr} {v v' pv : Value} {b' : Bs} (h : RfI B w t s v pv) (hu : Upd (fun k => v.ownBlock = some k) w w1) (hr : BR 5 B w1 v' b') (hf : Fresh w v v') :
    RfI B (w1.setCell ⟨t, 0, none⟩ v') t ⟨b', s.pl⟩ v' pv ∧ UpdF B w (w1.setCell ⟨t, 0, none⟩ v') := by
  obtain ⟨n1, n2, n3⟩ := h.ne
  obtain ⟨k1, k2, k3⟩ := h.kinds
  have hlt := blk_lt h.blk
  have hv't : v'.ownBlock ≠ some t := fun e => by
    rcases hf t e with e | e
    · exact n1 e
    · omega
  have hset : Upd (fun n => n = t) w1 (w1.setCell ⟨t, 0, none⟩ v') := (Upd.refl (fun n => n = t) w1).setCell (p := ⟨t, 0, none⟩) (fun _ => rfl) _
  refine ⟨⟨by simpa using blk_set (hu.block (fun e => n1 e) h.blk) 0 v', hr.upd hset (fun g hg e => hv't (by rw [hg, e])), ?_, ⟨h.lo.1, fun b hb => ?_⟩⟩, ?_⟩
  · exact ownsRow_upd (ownsRow_upd h.pls hu (fun g hg hs => n3 g hs hg)) hset (fun g hg e => n2 (by rw [hg, e]))
  · rcases hf b hb with e | e
    · exact h.lo.2 b e
    · have := h.lo.1; omega
  · exact Upd.setCell (S := fun b => B ≤ b ∧ kindF w.heap[b]? = true) (hu.mono fun k _ hk => k2 k hk) (fun _ => k1) _
theorem RfI.putP {w w1 : World} {t : Nat} {s : Wr} {v pv pv' : Value} {pl' : List (Bs × Nat)} (h : RfI B w t s v pv) (hu : Upd (fun k => pv.ownBlock = some k) w w1) (hr : w1.ownsRow 0 98 2 pv' pl'.length (plc pl')) (hf : Fresh w pv pv') :
    RfI B (w1.setCell ⟨t, 1, none⟩ pv') t ⟨s.b, pl'⟩ v pv' ∧ UpdF B w (w1.setCell ⟨t, 1, none⟩ pv') := by
  obtain ⟨n1, n2, n3⟩ := h.ne
  obtain ⟨k1, k2, k3⟩ := h.kinds
  have hlt := blk_lt h.blk
  have hv't : pv'.ownBlock ≠ some t := fun e => by
    rcases hf t e with e | e
    · exact n2 e
    · omega
  have hset : Upd (fun n => n = t) w1 (w1.setCell ⟨t, 1, none⟩ pv') := (Upd.refl (fun n => n = t) w1).setCell (p := ⟨t, 1, none⟩) (fun _ => rfl) _
  refine ⟨⟨by simpa using blk_set (hu.block (fun e => n2 e) h.blk) 1 pv', (h.row.upd hu (fun g hg hs => n3 g hg hs)).upd hset (fun g hg e => n1 (by rw [hg, e])), ?_, h.lo⟩, ?_⟩
  · refine ownsRow_upd (ownsRow_mono hr fun g hg => ?_) hset (fun g hg e => hv't (by rw [hg, e]))
    rcases hf g hg with e | e
    · exact (h.pls.lt g e).1
    · have := h.lo.1; omega
  · exact Upd.setCell (S := fun b => B ≤ b ∧ kindF w.heap[b]? = true) (hu.mono fun k _ hk => k3 k hk) (fun _ => k1) _
set_option maxRecDepth 100000 in
theorem rtext_w (t : Nat) (s : Wr) (l : Bs) (w : World) (h : RfM B w t s) (hl : s.b.length ≤ 50000000) (hn : l.length ≤ 70000) :
    Calls Try.prog 40 #[.pointer (some ⟨t, 0, none⟩), .string ⟨l.toArray⟩] w (Rets fun r w' => r = .tuple #[] ∧ UpdF B w w' ∧ RfM B w' t (s.add l)) := by
  obtain ⟨i0, hi, hz0, hz1, hz2⟩ := info_parts info_u8
  have hB := h.hB
  obtain ⟨v, pv, hI⟩ := h
  obtain ⟨ao, cap, rfl⟩ := hI.row.isSlice
  obtain ⟨c0, c1, c2⟩ := two_w hI.blk
  have hIh := Lib.hid hI
  have hlt := blk_lt hI.blk
  clear hI
  go_enter Try.func40, Try.ntmps40
  go_wp2_with (first
    | (at_builtin; refine wpList_appS rfl (.tmp 8) (.tmp 9) 38 9 rfl 5 i0 Try.underlying38 Try.underlying9 hi hz0 hz1 hz2 l rfl hIh.out.row hB rfl (by omega) ?_; intro ao' cap' w1 hb1 hu1 hf1; obtain ⟨x0, x1, x2⟩ := two_w (hu1.block (fun e => (hIh.out.ne).1 e) hIh.out.blk); have hb1h := Lib.hid hb1; have hf1h := Lib.hid hf1; have hu1h := Lib.hid hu1; clear hb1 hf1 hu1)
    | (with_reducible refine wp_serial (by kernel_rfl) (by kernel_rfl) (by repeat with_reducible (first | apply NoBad.then | apply NoBad.inBlock | apply NoBad.jump | exact NoBad.rets)) ?_)
    | fail)
  all_goals go_returns
  obtain ⟨z1, z2⟩ := hIh.out.put hu1h.out hb1h.out hf1h.out
  exact ⟨rfl, z2, _, _, z1⟩
set_option maxRecDepth 100000 in
theorem rnumber_w (t : Nat) (s : Wr) (n k : Nat) (w : World) (h : RfM B w t s) (hl : s.b.length ≤ 50000000) (hk : k ≤ 8) (hn : n < 9223372036854775808) :
    Calls Try.prog 36 #[.pointer (some ⟨t, 0, none⟩), .int .i64 n, .int .i64 k] w (Rets fun r w' => r = .tuple #[] ∧ UpdF B w w' ∧ RfM B w' t (s.add (wid k n))) := by
  have hh := Lib.hid h
  clear h
  go_enter Try.func36, Try.ntmps36
  go_wp2_with (first
    | (go_at_call 58; (with_reducible refine (wide_w k hk n hn _).use ?_); rintro v w1 ⟨rfl, hu1⟩; have k1 := Lib.hid (hh.out.to0 hu1))
    | (go_at_call 40; (with_reducible refine (rtext_w t s (wid k n) _ k1.out hl (by rw [wid_len]; omega)).use ?_); rintro v w2 ⟨rfl, hu2, hc2⟩; have k2 := Lib.hid hc2; clear hc2)
    | (with_reducible refine wp_serial (by kernel_rfl) (by kernel_rfl) (by repeat with_reducible (first | apply NoBad.then | apply NoBad.inBlock | apply NoBad.jump | exact NoBad.rets)) ?_)
    | fail)
  all_goals go_returns
  exact ⟨rfl, (UpdF.of0 hu1).tr hu2, k2.out⟩
theorem wid2 (n : Nat) : wid 2 n = wd2 n := by simp [wid, wd2]
theorem wid1 (n : Nat) : wid 1 n = [UInt8.ofNat n] := by simp [wid]
set_option maxRecDepth 100000 in
theorem bit_w (b : Bool) (n : Nat) (w : World) : Calls Try.prog 37 #[.bool b, .int .i64 n] w (Rets fun r w' => r = .int .i64 ((b2n b n : Nat) : Int) ∧ Upd0 w w') := by
  cases b
  all_goals
    go_enter Try.func37, Try.ntmps37
    go_wp2_with (first | (with_reducible refine wp_serial (by kernel_rfl) (by kernel_rfl) (by repeat with_reducible (first | apply NoBad.then | apply NoBad.inBlock | apply NoBad.jump | exact NoBad.rets)) ?_) | fail)
    all_goals go_returns
    all_goals exact ⟨rfl, (by repeat first | with_reducible (first | exact Upd.refl _ _ | assumption | apply Upd.drew | apply Upd.alloc) | refine Upd0.tr ?_ (by with_reducible assumption) | refine Upd.setCell ?_ (fun h => absurd h (by first | exact Nat.lt_irrefl _ | (simp only []; omega))) _)⟩
set_option maxRecDepth 100000 in
theorem flag_w (b : Bool) (n : Nat) (w : World) : Calls Try.prog 32 #[.bool b, .int .i64 n] w (Rets fun r w' => r = .int .i64 ((b2n b n : Nat) : Int) ∧ Upd0 w w') := by
  cases b
  all_goals
    go_enter Try.func32, Try.ntmps32
    go_wp2_with (first | (with_reducible refine wp_serial (by kernel_rfl) (by kernel_rfl) (by repeat with_reducible (first | apply NoBad.then | apply NoBad.inBlock | apply NoBad.jump | exact NoBad.rets)) ?_) | fail)
    all_goals go_returns
    all_goals exact ⟨rfl, (by repeat first | with_reducible (first | exact Upd.refl _ _ | assumption | apply Upd.drew | apply Upd.alloc) | refine Upd0.tr ?_ (by with_reducible assumption) | refine Upd.setCell ?_ (fun h => absurd h (by first | exact Nat.lt_irrefl _ | (simp only []; omega))) _)⟩
end Go.Proofs.Ytgdejgfmhndbhaa
