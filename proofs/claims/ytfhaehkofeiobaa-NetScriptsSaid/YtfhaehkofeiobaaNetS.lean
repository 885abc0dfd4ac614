/-
  Networks: the reference's Take.
-/
import Derived.Test.YtfhaehkofeiobaaNetR
namespace Go.Proofs.Ytfhaehkofeiobaa
open Go.RowKit
set_option linter.unusedSimpArgs false
set_option linter.unusedVariables false

theorem owns_none {e : TypeId} {s : Nat} (w : World) : w.ownsRow 0 e s (.slice none 0 0) 0 [] := by
  refine ⟨by simp, .inl ⟨rfl, rfl⟩⟩
theorem none_upd {w w' : World} (h : Upd (fun k => (Value.slice none 0 0).ownBlock = some k) w w') : Upd0 w w' := h.mono fun _ _ h => by simp [Value.ownBlock] at h
theorem none_fresh {w : World} {v : Value} (h : Fresh w (.slice none 0 0) v) : ∀ k, v.ownBlock = some k → w.heap.size ≤ k := fun k hk => by
  rcases h k hk with h | h
  · simp [Value.ownBlock] at h
  · exact h
theorem ref_put {T E : TypeId} {w wm w3 : World} {b : Nat} {v vo v' : Value} {nd rm : Int} {l m : List Pk} (hN : NetIs T E w b v nd rm l) (h0 : Upd0 w wm) (hf1 : ∀ k, vo.ownBlock = some k → w.heap.size ≤ k) (hu : Upd (fun k => vo.ownBlock = some k) wm w3) (hr : w3.ownsRow 0 E 3 v' m.length (pks m)) (hf : Fresh wm vo v') :
    NetTo T E w (w3.setCell ⟨b, 2, none⟩ v') b v v' nd rm m := by
  refine net_put hN ?_ hr (fun k hk => ?_)
  · exact Upd.trans (h0.mono (fun _ _ h => h.elim)) hu (fun n hn h => absurd (hf1 n h) (by omega))
  · rcases hf k hk with h | h
    · exact .inr (hf1 k h)
    · exact .inr (Nat.le_trans h0.size h)
theorem old_rules {w2 w3 : World} {v : Value} {K : Nat} (hu : Upd (fun k => v.ownBlock = some k) w2 w3) (hf : ∀ k, v.ownBlock = some k → K ≤ k) : (∀ b o, b < K → b < w2.heap.size → w3.cell? ⟨b, o, none⟩ = w2.cell? ⟨b, o, none⟩) ∧ (∀ b o, b < K → b < w2.heap.size → w3.frozen? ⟨b, o, none⟩ = w2.frozen? ⟨b, o, none⟩) :=
  ⟨fun b o h1 h2 => hu.cellEq (fun e => absurd (hf _ e) (by simp; omega)) h2, fun b o h1 h2 => hu.frz (fun e => absurd (hf _ e) (by simp; omega)) h2⟩
theorem split_part {w : World} {e : TypeId} {l : List Pk} {g cap : Nat} (h : w.ownsRow 0 e 3 (.slice (some ⟨g, 0, none⟩) l.length cap) l.length (pks l)) (n m : Nat) (hm : l.length = n + 1 + m) :
    ∃ X : Addr, ((cap = n + 1 ∧ X = ⟨g, 0, none⟩) ∨ (¬ cap = n + 1 ∧ X = ⟨g, (n + 1) * 3, none⟩)) ∧ ∀ W, Ext w W → ∀ j u, ((l.drop (n + 1)).flatMap Pk.cells)[j]? = some u → W.cell? (X.add j) = some u := by
  obtain ⟨_, _, r2, _⟩ := ownsRow_blk h
  by_cases hc : cap = n + 1
  · refine ⟨⟨g, 0, none⟩, by simp [hc], fun W k j u hu => ?_⟩
    rw [List.drop_eq_nil_of_le (by omega)] at hu
    cases hu
  · refine ⟨⟨g, (n + 1) * 3, none⟩, by simp [hc], fun W k => ?_⟩
    have := part_cells pk_len (ownsRow_ext h k) (n + 1) m
    rwa [List.take_of_length_le (by simp; omega)] at this
set_option maxHeartbeats 1000000 in
theorem rtake_some (b : Nat) (v : Value) (nd rm : Int) (l : List Pk) (w : World) (h : NetIs 31 33 w b v nd rm l) (hl : l.length ≤ 1000) (i : Int) (hb : lookB l i = true) :
    Calls Try.prog 13 #[.pointer (some ⟨b, 0, none⟩), .int .i64 i] w (Rets fun r w' => r = .tuple #[(lookP l i).val, .bool true] ∧ NetStep 31 33 w w' b v nd rm (l.eraseIdx i.toNat)) := by
  obtain ⟨i0, hi, hz0, hz1, hz2⟩ := info_parts info_rpk
  have h2 : 0 ≤ i ∧ i < l.length := by simpa [lookB] using hb
  obtain ⟨n, rfl⟩ := Int.eq_ofNat_of_zero_le h2.1
  have hn : n < l.length := by omega
  obtain ⟨ao, cap, rfl⟩ := ownsRow_slice h.row
  obtain ⟨g, rfl⟩ := ownsRow_some h.row (by omega)
  obtain ⟨m, hm⟩ : ∃ m, l.length = n + 1 + m := ⟨l.length - (n + 1), by omega⟩
  have hbl := blk_lt h.blk
  have hgl := ownsRow_lt h.row (g := g) rfl
  have hne : ¬ b = g := fun e => h.ne (by rw [e]; rfl)
  have c2 : w.cell? ⟨b, 2, none⟩ = some (.slice (some ⟨g, 0, none⟩) l.length cap) := by simpa using blk_cell h.blk 2
  have f2 := blk_frz h.blk 2
  have hh := Lib.hid h
  have hbh := Lib.hid hb
  have hmh := Lib.hid hm
  have hcap : n + 1 + m ≤ cap := by obtain ⟨_, _, r2, _⟩ := ownsRow_blk h.row; omega
  have hm1 : n + 1 + m ≤ 1000 := by omega
  have hx1 := Lib.hid (fun (W : World) (k : Ext w W) => (by simpa using part_cells pk_len (ownsRow_ext h.row k) 0 n : ∀ j u, ((l.take n).flatMap Pk.cells)[j]? = some u → W.cell? ((⟨g, 0, none⟩ : Addr).add j) = some u))
  obtain ⟨X, hX0, hXc⟩ := split_part (l := l) h.row n m hm
  have hx2 := Lib.hid (fun (W : World) (k : Ext w W) => hXc W k)
  clear hXc
  rw [hm] at c2
  clear h hb h2 hm
  rcases hX0 with ⟨hcc, rfl⟩ | ⟨hcc, rfl⟩
  all_goals
    go_enter Try.func13, Try.ntmps13
    go_wp2_with (first
      | (with_reducible refine wp_serial (by kernel_rfl) (by kernel_rfl) (by (repeat (first | (with_reducible apply NoBad.then) | (with_reducible apply NoBad.inBlock) | (with_reducible exact NoBad.rets))); done) ?_)
      | (go_at_call 20; refine (rlook_any _ _ _ _ _ _ (net_ext hh.out (by (repeat (first | exact Ext.refl _ | assumption | apply Ext.drew | apply Ext.alloc)); done)) hl _).use ?_; rintro v w1 ⟨rfl, hu⟩; rw [hbh.out]; obtain ⟨k1, k2, k3⟩ := hu.rules; simp only [World.size_alloc, World.size_drew] at k1 k2 k3; have kb : b < w1.heap.size := (by omega); have hu1 := Lib.hid hu; clear hu)
      | ((at_builtin; have hq := hv1.out; clear hq); refine wpList_appx (w := w2) (by (repeat (first | exact Ext.refl _ | assumption | apply Ext.drew | apply Ext.alloc)); done) rfl (.tmp 25) _ 29 rfl 33 i0 _ 3 32 Try.underlying29 hi hz0 hz1 hz2 rfl (by decide) _ _ _ hr1.out rfl _ m _ ((l.drop (n + 1)).flatMap Pk.cells) rfl (by have := hmh.out; simp [flat_len pk_len]; omega) (hx2.out _ (Ext.trans (Ext.trans (Ext.trans (by (repeat (first | exact Ext.refl _ | assumption | apply Ext.drew | apply Ext.alloc)); done) hu1.out.ext) (by (repeat (first | exact Ext.refl _ | assumption | apply Ext.drew | apply Ext.alloc)); done)) (Ext.trans hv1.out.ext (by (repeat (first | exact Ext.refl _ | assumption | apply Ext.drew | apply Ext.alloc)); done)))) (pks_one' _) (by omega) (by omega) ?_; intro ao2 cap2 w3 hr hu hf; obtain ⟨m1, m2⟩ := old_rules hu hf1.out; simp only [World.size_alloc, World.size_drew] at m1 m2; have kr : w.heap.size < w1.heap.size := (by omega); have kr2 : w.heap.size < w2.heap.size := (by omega); have kr3 : w1.heap.size < w2.heap.size := (by omega); have hu2 := Lib.hid hu; have hr2 := Lib.hid hr; have hf2 := Lib.hid hf; clear hu hr hf)
      | (at_builtin; refine wpList_appx (w := w) (Ext.trans (Ext.trans (by (repeat (first | exact Ext.refl _ | assumption | apply Ext.drew | apply Ext.alloc)); done) hu1.out.ext) (by (repeat (first | exact Ext.refl _ | assumption | apply Ext.drew | apply Ext.alloc)); done)) rfl (.tmp 16) _ 29 rfl 33 i0 _ 3 32 Try.underlying29 hi hz0 hz1 hz2 rfl (by decide) _ _ _ (owns_none w) rfl ⟨g, 0, none⟩ n _ ((l.take n).flatMap Pk.cells) rfl (by simp [flat_len pk_len]; omega) (hx1.out _ (Ext.trans (Ext.trans (by (repeat (first | exact Ext.refl _ | assumption | apply Ext.drew | apply Ext.alloc)); done) hu1.out.ext) (by (repeat (first | exact Ext.refl _ | assumption | apply Ext.drew | apply Ext.alloc)); done))) (pks_one' _) (by omega) (by omega) ?_; intro ao' cap' w2 hr hu hf; rw [Nat.zero_add] at hr hf ⊢; rw [List.nil_append] at hr; have hv0 := none_upd hu; have hf0 := none_fresh hf; obtain ⟨j1, j2, j3⟩ := hv0.rules; simp only [World.size_alloc, World.size_drew] at j1 j2 j3; have kb2 : b < w2.heap.size := (by omega); have hv1 := Lib.hid hv0; have hr1 := Lib.hid hr; have hf1 := Lib.hid hf0; clear hv0 hr hu hf hf0)
      | fail)
    have x0 : w3.cell? ⟨w.heap.size, 0, none⟩ = some (.int .i64 0) := by rw [m1 _ _ (by omega) (by omega), j1 _ _ (by omega)]; go_simp
    have x1 : w3.cell? ⟨w.heap.size, 1, none⟩ = some (.int .i64 0) := by rw [m1 _ _ (by omega) (by omega), j1 _ _ (by omega)]; go_simp
    have x2 : w3.cell? ⟨w.heap.size, 2, none⟩ = some (.string .empty) := by rw [m1 _ _ (by omega) (by omega), j1 _ _ (by omega)]; go_simp; rfl
    have xb : ¬ b = w.heap.size := by omega
    refine bodyPost_ret (v := .tuple #[(lookP l n).val, .bool true]) (by simp [results, Try.results13, go_sem, Pk.val, x0, x1, x2, xb]) rfl ?_
    refine ⟨rfl, ?_⟩
    have h0 : Upd0 w w2 := Upd.trans (Upd.trans (Upd.trans (by (repeat (first | exact Upd.refl _ _ | assumption | apply Upd.drew | apply Upd.alloc | (refine Upd.setCell ?_ (fun h => absurd h (by first | exact Nat.lt_irrefl _ | (simp only []; omega))) _))); done) hu1.out (fun _ _ h => h)) (Upd.alloc (Upd.refl _ _) _) (fun _ _ h => h)) hv1.out (fun _ _ h => h)
    have hT := ref_put (m := l.eraseIdx n) hh.out h0 (fun k hk => by have h1 := hf1.out k hk; simp at h1; omega) hu2.out (by have := hr2.out; rw [List.length_eraseIdx_of_lt hn, List.eraseIdx_eq_take_drop_succ, pks_app, hmh.out]; rwa [show n + 1 + m - 1 = n + m by omega]) hf2.out
    have q : ¬ (Value.slice ao2 (n + m) cap2).ownBlock = some w.heap.size := fun e => by
      rcases hf2.out _ e with h | h
      · have h1 := hf1.out _ h; simp at h1; omega
      · omega
    exact (((hT.set (Nat.le_refl _) (Nat.ne_of_gt hbl) q _).set (Nat.le_refl _) (Nat.ne_of_gt hbl) q _).set (Nat.le_refl _) (Nat.ne_of_gt hbl) q _).step
theorem rtake_none (b : Nat) (v : Value) (nd rm : Int) (l : List Pk) (w : World) (h : NetIs 31 33 w b v nd rm l) (hl : l.length ≤ 1000) (i : Int) (hb : lookB l i = false) :
    Calls Try.prog 13 #[.pointer (some ⟨b, 0, none⟩), .int .i64 i] w (Rets fun r w' => r = .tuple #[(lookP l i).val, .bool false] ∧ Upd0 w w') := by
  have hh := Lib.hid h
  have hbh := Lib.hid hb
  have hbl := blk_lt h.blk
  clear h hb
  go_enter Try.func13, Try.ntmps13
  go_wp2_with (first
    | (with_reducible refine wp_serial (by kernel_rfl) (by kernel_rfl) (by (repeat (first | (with_reducible apply NoBad.then) | (with_reducible apply NoBad.inBlock) | (with_reducible exact NoBad.rets))); done) ?_)
    | (go_at_call 20; refine (rlook_any _ _ _ _ _ _ (net_ext hh.out (by (repeat (first | exact Ext.refl _ | assumption | apply Ext.drew | apply Ext.alloc)); done)) hl _).use ?_; rintro v w1 ⟨rfl, hu⟩; rw [hbh.out]; obtain ⟨k1, k2, k3⟩ := hu.rules; simp only [World.size_alloc, World.size_drew] at k1 k2 k3; have kb : b < w1.heap.size := (by omega); have kr : w.heap.size < w1.heap.size := (by omega); have hu1 := Lib.hid hu; clear hu)
    | fail)
  refine bodyPost_ret (v := .tuple #[(lookP l i).val, .bool false]) (by simp [results, Try.results13, go_sem, Pk.val, *]) rfl ?_
  refine ⟨rfl, ?_⟩
  have := Upd.trans (w := w) (by (repeat (first | exact Upd.refl _ _ | assumption | apply Upd.drew | apply Upd.alloc | (refine Upd.setCell ?_ (fun h => absurd h (by first | exact Nat.lt_irrefl _ | (simp only []; omega))) _))); done) hu1.out (fun _ _ h => h)
  (repeat (first | exact Upd.refl _ _ | assumption | apply Upd.drew | apply Upd.alloc | (refine Upd.setCell ?_ (fun h => absurd h (by first | exact Nat.lt_irrefl _ | (simp only []; omega))) _)))
theorem rtake_any (b : Nat) (v : Value) (nd rm : Int) (l : List Pk) (w : World) (h : NetIs 31 33 w b v nd rm l) (hl : l.length ≤ 1000) (i : Int) :
    Calls Try.prog 13 #[.pointer (some ⟨b, 0, none⟩), .int .i64 i] w (Rets fun r w' => r = .tuple #[(lookP l i).val, .bool (lookB l i)] ∧ NetStep 31 33 w w' b v nd rm (takeL l i)) := by
  unfold takeL
  cases hb : lookB l i with
  | true => exact rtake_some b v nd rm l w h hl i hb
  | false =>
    refine (rtake_none b v nd rm l w h hl i hb).mono fun e w' he => ?_
    cases e with
    | returned r => exact ⟨he.1, (h.to he.2).step⟩
    | _ => exact he.elim
end Go.Proofs.Ytfhaehkofeiobaa
