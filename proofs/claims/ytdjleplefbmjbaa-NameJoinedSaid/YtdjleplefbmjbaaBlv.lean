/-
  strings.Builder, with what it leaves alone: its own block and its bytes' block alone change.
-/
import Derived.Test.YtdjleplefbmjbaaBld
namespace Go.Proofs.Ytdjleplefbmjbaa
open Go.RowKit
set_option linter.unusedSimpArgs false
set_option linter.unusedVariables false
/-- the builder at b holds the bytes l, in the slice v -/
def BldV (B b : Nat) (v : Value) (l : Bs) (w : World) : Prop :=
  B ≤ b ∧ (∃ p, (p = .pointer none ∨ p = .pointer (some ⟨b, 0, none⟩)) ∧ w.heap[b]? = some (.cells #[p, v] BT (0, 0))) ∧ w.ownsRow B U8 1 v l.length (byt l) ∧ v.ownBlock ≠ some b
theorem BldV.bld {B b : Nat} {v : Value} {l : Bs} {w : World} (h : BldV B b v l w) : Bld B b l w := by
  obtain ⟨h1, ⟨p, hp | hp, h2⟩, h3, h4⟩ := h
  · subst hp; exact .inl ⟨h1, v, h2, by rw [byt_len]; exact h3, h4⟩
  · subst hp; exact .inr ⟨h1, v, h2, by rw [byt_len]; exact h3, h4⟩
theorem bldV_new (w : World) : BldV w.heap.size w.heap.size (.slice none 0 0) [] (w.alloc (.cells #[.pointer none, .slice none 0 0] BT)) :=
  ⟨Nat.le_refl _, ⟨_, .inl rfl, heap_alloc_new w _⟩, World.ownsRow_nil _ _ _ _, by simp [Value.ownBlock]⟩
theorem BldV.upd {S : Nat → Prop} {B b : Nat} {v : Value} {l : Bs} {w w' : World} (h : BldV B b v l w) (k : Upd S w w') (hb : ¬ S b) (hv : ∀ g, v.ownBlock = some g → ¬ S g) : BldV B b v l w' := by
  obtain ⟨h1, ⟨p, hp, h2⟩, h3, h4⟩ := h
  exact ⟨h1, ⟨p, hp, k.block hb h2⟩, ownsRow_upd h3 k hv, h4⟩
theorem bvCheck_w (B b : Nat) (v : Value) (l : Bs) (w : World) (h : BldV B b v l w) :
    Calls Try.prog 69 #[.pointer (some ⟨b, 0, none⟩)] w (Rets fun r w' => r = .tuple #[] ∧ w'.heap[b]? = some (.cells #[.pointer (some ⟨b, 0, none⟩), v] BT (0, 0)) ∧ Upd (fun k => k = b) w w') := by
  obtain ⟨h1, ⟨p, hp, h2⟩, h3, h4⟩ := h
  have c0 : w.cell? ⟨b, 0, none⟩ = some p := by rw [Lib.cell_of_heap h2]; rfl
  rcases hp with rfl | rfl
  · refine (bldCheck_fresh b w c0 (by simp [World.shape?, h2]) (Lib.frozen_of_heap h2 0)).mono ?_
    rintro e w' ⟨rfl, rfl⟩
    exact ⟨rfl, by simpa using blk_set h2 0 (.pointer (some ⟨b, 0, none⟩)), Upd.setCell (S := fun k => k = b) (Upd.refl _ w) (p := ⟨b, 0, none⟩) (fun _ => rfl) _⟩
  · refine (bldCheck_used b w c0).mono ?_
    rintro e w' ⟨rfl, rfl⟩
    exact ⟨rfl, h2, Upd.refl _ _⟩
theorem byt_cells (l : Bs) : (byt l).all (·.oneCell') = true := List.all_eq_true.2 (byt_one l)
theorem bldV_put {B b : Nat} {v v' : Value} {l' : Bs} {W w2 : World} (hB : B ≤ b) (hBW : B ≤ W.heap.size) (hlt : b < W.heap.size) (hv : ∀ g, v.ownBlock = some g → B ≤ g ∧ g ≠ b) (h2 : w2.heap[b]? = some (.cells #[.pointer (some ⟨b, 0, none⟩), v] BT (0, 0))) (ho : w2.ownsRow 0 U8 1 v' l'.length (byt l')) (hf : Fresh W v v') :
    BldV B b v' l' (w2.setCell ⟨b, 1, none⟩ v') := by
  have hne : v'.ownBlock ≠ some b := fun e => by
    rcases hf b e with h | h
    · exact (hv b h).2 rfl
    · omega
  refine ⟨hB, ⟨_, .inr rfl, by simpa using blk_set h2 1 v'⟩, ?_, hne⟩
  have h3 := ownsRow_upd ho ((Upd.refl (fun k => k = b) w2).setCell (p := ⟨b, 1, none⟩) (fun _ => rfl) v') (fun g hg e => hne (by rw [hg, e]))
  exact ownsRow_mono h3 (fun g hg => by
    rcases hf g hg with h | h
    · exact (hv g h).1
    · omega)
set_option maxHeartbeats 2000000 in
set_option maxRecDepth 100000 in
theorem bvByte_w (B b : Nat) (v : Value) (l : Bs) (n : Nat) (hn : n < 256) (w : World) (h : BldV B b v l w) (hlen : l.length ≤ 1000000) (hBw : B ≤ w.heap.size) :
    Calls Try.prog 45 #[.pointer (some ⟨b, 0, none⟩), .int .u8 n] w (Rets fun r w' => r = .nilIface ∧ ∃ v', BldV B b v' (l ++ [UInt8.ofNat n]) w' ∧ Upd (fun k => k = b ∨ v.ownBlock = some k) w w' ∧ Fresh w v v') := by
  obtain ⟨i0, hi, hz0, hz1, hz2⟩ := info_parts info_u8
  have hvl : ∀ g, v.ownBlock = some g → B ≤ g ∧ g ≠ b := fun g hg => ⟨(h.2.2.1.lt g hg).1, fun e => h.2.2.2 (by rw [hg, e])⟩
  have hvh := Lib.hid hvl
  clear hvl
  go_enter Try.func45, Try.ntmps45
  go_wp2_with (first
    | (go_at_call 69; refine (bvCheck_w B b v l _ h).use ?_; rintro r w1 ⟨rfl, hbk, hu1⟩; have hown := Lib.hid (ownsRow_upd h.2.2.1 hu1 (fun g hg e => h.2.2.2 (by rw [hg, e]))); have hbkh := Lib.hid hbk; clear hbk; have c0 : w1.cell? ⟨b, 0, none⟩ = some (.pointer (some ⟨b, 0, none⟩)) := (by rw [Lib.cell_of_heap hbkh.out]; rfl); have c1 : w1.cell? ⟨b, 1, none⟩ = some v := (by rw [Lib.cell_of_heap hbkh.out]; rfl); have hs1 := hu1.size)
    | (at_builtin; refine wpList_app (w := w1) (by (repeat (first | exact Ext.refl _ | assumption | apply Ext.drew | apply Ext.alloc)); done) rfl _ _ 74 rfl U8 i0 (.int .u8 0) 1 1 Try.underlying74 hi hz0 hz1 hz2 rfl (by decide) v l.length (byt l) (ownsRow_mono hown.out (fun _ _ => Nat.zero_le _)) rfl w1.heap.size 1 1 [.int .u8 n] rfl rfl (alloc_last _ _ _ (by simp)) (by rfl) (by omega) (by omega) ?_; intro ao' cap' w2 hown' hu2 hf2; have hown2 := Lib.hid hown'; clear hown'; have hlt : b < w1.heap.size := blk_lt hbkh.out; have hb2 := Lib.hid (hu2.block (n := b) (fun e => (hvh.out b e).2 rfl) (blk_alloc hbkh.out)); have d0 : w2.cell? ⟨b, 0, none⟩ = some (.pointer (some ⟨b, 0, none⟩)) := (by rw [Lib.cell_of_heap hb2.out]; rfl); have d1 : w2.cell? ⟨b, 1, none⟩ = some v := (by rw [Lib.cell_of_heap hb2.out]; rfl); have f1 : w2.frozen? ⟨b, 1, none⟩ = false := Lib.frozen_of_heap hb2.out 1; have hf2h := Lib.hid hf2; clear hf2)
    | (with_reducible refine wp_serial (by kernel_rfl) (by kernel_rfl) (by (repeat (first | (with_reducible apply NoBad.then) | (with_reducible apply NoBad.inBlock) | (with_reducible exact NoBad.rets))); done) ?_) | fail)
  go_returns
  refine ⟨rfl, _, bldV_put (l' := l ++ [UInt8.ofNat n]) h.1 ?_ ?_ hvh.out hb2.out ?_ hf2h.out, ?_, ?_⟩
  · simp; omega
  · simp; omega
  · have e : byt (l ++ [UInt8.ofNat n]) = byt l ++ [.int .u8 n] := by rw [byt_app]; simp [byt, UInt8.toNat_ofNat']; omega
    rw [e, List.length_append]; exact hown2.out
  · exact Upd.setCell (Upd.trans (Upd.alloc (hu1.mono (fun n _ hn => .inl hn)) _) hu2 (fun n _ hs => .inr hs)) (fun _ => .inl rfl) _
  · exact fun k hk => by
      rcases hf2h.out k hk with h' | h'
      · exact .inl h'
      · exact .inr (by simp at h'; omega)
set_option maxHeartbeats 2000000 in
set_option maxRecDepth 100000 in
theorem bvWrite_w (B b : Nat) (v : Value) (l news : Bs) (g : Nat) (w : World) (h : BldV B b v l w) (hg : w.heap[g]? = some (.cells (byt news).toArray U8 (0, 0))) (hgb : g ≠ b) (hlen : l.length ≤ 1000000) (hln : news.length ≤ 1000) (hBw : B ≤ w.heap.size) :
    Calls Try.prog 44 #[.pointer (some ⟨b, 0, none⟩), .slice (some ⟨g, 0, none⟩) news.length news.length] w (Rets fun r w' => r = .tuple #[.int .i64 news.length, .nilIface] ∧ ∃ v', BldV B b v' (l ++ news) w' ∧ Upd (fun k => k = b ∨ v.ownBlock = some k) w w' ∧ Fresh w v v') := by
  obtain ⟨i0, hi, hz0, hz1, hz2⟩ := info_parts info_u8
  have hvl : ∀ g, v.ownBlock = some g → B ≤ g ∧ g ≠ b := fun g hg => ⟨(h.2.2.1.lt g hg).1, fun e => h.2.2.2 (by rw [hg, e])⟩
  have hvh := Lib.hid hvl
  clear hvl
  have hgh := Lib.hid hg
  clear hg
  go_enter Try.func44, Try.ntmps44
  go_wp2_with (first
    | (go_at_call 69; refine (bvCheck_w B b v l _ h).use ?_; rintro r w1 ⟨rfl, hbk, hu1⟩; have hown := Lib.hid (ownsRow_upd h.2.2.1 hu1 (fun g hg e => h.2.2.2 (by rw [hg, e]))); have hbkh := Lib.hid hbk; clear hbk; have c0 : w1.cell? ⟨b, 0, none⟩ = some (.pointer (some ⟨b, 0, none⟩)) := (by rw [Lib.cell_of_heap hbkh.out]; rfl); have c1 : w1.cell? ⟨b, 1, none⟩ = some v := (by rw [Lib.cell_of_heap hbkh.out]; rfl); have hs1 := hu1.size; have hg1 := Lib.hid (hu1.block (n := g) hgb hgh.out))
    | (at_builtin; refine wpList_app (w := w1) (Ext.refl _) rfl _ _ 74 rfl U8 i0 (.int .u8 0) 1 1 Try.underlying74 hi hz0 hz1 hz2 rfl (by decide) v l.length (byt l) (ownsRow_mono hown.out (fun _ _ => Nat.zero_le _)) rfl g news.length news.length (byt news) rfl (by rw [byt_len]; omega) hg1.out (byt_cells news) (by omega) (by omega) ?_; intro ao' cap' w2 hown' hu2 hf2; have hown2 := Lib.hid hown'; clear hown'; have hlt : b < w1.heap.size := blk_lt hbkh.out; have hb2 := Lib.hid (hu2.block (n := b) (fun e => (hvh.out b e).2 rfl) hbkh.out); have d0 : w2.cell? ⟨b, 0, none⟩ = some (.pointer (some ⟨b, 0, none⟩)) := (by rw [Lib.cell_of_heap hb2.out]; rfl); have d1 : w2.cell? ⟨b, 1, none⟩ = some v := (by rw [Lib.cell_of_heap hb2.out]; rfl); have f1 : w2.frozen? ⟨b, 1, none⟩ = false := Lib.frozen_of_heap hb2.out 1; have hf2h := Lib.hid hf2; clear hf2)
    | (with_reducible refine wp_serial (by kernel_rfl) (by kernel_rfl) (by (repeat (first | (with_reducible apply NoBad.then) | (with_reducible apply NoBad.inBlock) | (with_reducible exact NoBad.rets))); done) ?_) | fail)
  go_returns
  refine ⟨rfl, _, bldV_put (l' := l ++ news) h.1 ?_ ?_ hvh.out hb2.out ?_ hf2h.out, ?_, ?_⟩
  · omega
  · omega
  · rw [byt_app, List.length_append]; exact hown2.out
  · exact Upd.setCell (Upd.trans (hu1.mono (fun n _ hn => .inl hn)) hu2 (fun n _ hs => .inr hs)) (fun _ => .inl rfl) _
  · exact fun k hk => by
      rcases hf2h.out k hk with h' | h'
      · exact .inl h'
      · exact .inr (by omega)
end Go.Proofs.Ytdjleplefbmjbaa
