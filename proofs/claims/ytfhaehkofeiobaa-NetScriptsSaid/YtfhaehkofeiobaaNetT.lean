/-
  Networks: the reference's Clear; Send to none; same.
-/
import Derived.Test.YtfhaehkofeiobaaNetS
namespace Go.Proofs.Ytfhaehkofeiobaa
open Go.RowKit
set_option linter.unusedSimpArgs false
set_option linter.unusedVariables false

/-- out holds the packets that are kept of the first k -/
def OutIs (E : TypeId) (w wr : World) (node : Int) (l : List Pk) (k : Nat) (o : Value) : Prop :=
  wr.ownsRow 0 E 3 o (keepL node (l.take k)).length (pks (keepL node (l.take k))) ∧ (∀ g, o.ownBlock = some g → w.heap.size ≤ g) ∧ Upd0 w wr
theorem out_len {node : Int} {l : List Pk} {k : Nat} (hk : k ≤ l.length) : (keepL node (l.take k)).length ≤ k := by
  have := List.length_filter_le (fun p => !hitTo node p) (l.take k)
  simp only [keepL]
  rw [List.length_take] at this; omega
theorem out_hit {E : TypeId} {w wr w' : World} {node : Int} {l : List Pk} {k : Nat} {o : Value} {p : Pk} (h : OutIs E w wr node l k o) (hp : l[k]? = some p) (hh : hitTo node p = true) (hu : Upd0 wr w') : OutIs E w w' node l (k + 1) o := by
  obtain ⟨h1, h2, h3⟩ := h
  unfold OutIs
  rw [keep_snoc_hit hp hh]
  exact ⟨ownsRow_upd h1 hu (fun _ _ h => h), h2, Upd.trans h3 hu (fun _ _ h => h)⟩
theorem out_no {E : TypeId} {w wr wm w' : World} {node : Int} {l : List Pk} {k : Nat} {o o' : Value} {p : Pk} (h : OutIs E w wr node l k o) (hp : l[k]? = some p) (hh : hitTo node p = false) (h0 : Upd0 wr wm) (hu : Upd (fun k => o.ownBlock = some k) wm w')
    (hr : w'.ownsRow 0 E 3 o' ((keepL node (l.take k)).length + 1) (pks (keepL node (l.take k)) ++ p.cells)) (hf : Fresh wm o o') : OutIs E w w' node l (k + 1) o' := by
  obtain ⟨h1, h2, h3⟩ := h
  have h4 := Upd.trans h3 h0 (fun _ _ h => h)
  unfold OutIs
  rw [keep_snoc_no hp hh]
  refine ⟨by simpa [pks] using hr, fun g hg => ?_, Upd.trans h4 hu (fun n hn h => absurd (h2 n h) (by omega))⟩
  rcases hf g hg with h | h
  · exact h2 g h
  · exact Nat.le_trans h4.size h
set_option maxHeartbeats 1000000 in
theorem rclear_any (b : Nat) (v : Value) (nd rm : Int) (l : List Pk) (w : World) (h : NetIs 31 33 w b v nd rm l) (hl : l.length ≤ 1000) (node : Int) :
    Calls Try.prog 18 #[.pointer (some ⟨b, 0, none⟩), .int .i64 node] w (Rets fun r w' => r = .int .i64 ((l.length : Int) - (keepL node l).length) ∧ NetStep 31 33 w w' b v nd rm (keepL node l)) := by
  obtain ⟨i0, hi, hz0, hz1, hz2⟩ := info_parts info_rpk
  obtain ⟨ao, cap, rfl⟩ := ownsRow_slice h.row
  have hbl := blk_lt h.blk
  have hh := Lib.hid h
  have c2 : w.cell? ⟨b, 2, none⟩ = some (.slice ao l.length cap) := by simpa using blk_cell h.blk 2
  have f2 := blk_frz h.blk 2
  clear h
  go_enter Try.func18, Try.ntmps18
  go_wp2_with (first | (with_reducible refine wp_serial (by kernel_rfl) (by kernel_rfl) (by (repeat (first | (with_reducible apply NoBad.then) | (with_reducible apply NoBad.inBlock) | (with_reducible exact NoBad.rets))); done) ?_) | fail)
  go_loopw [5, 6] (fun o i wr => ∃ k : Nat, k ≤ l.length ∧ i = .int .i64 k ∧ Hid (OutIs 33 w wr node l k o)) (fun _ i _ => l.length - (intOf i).toNat)
  case atStart => exact ⟨0, Nat.zero_le _, rfl, by simp [keepL, pks]; exact owns_none _, by simp [Value.ownBlock], (by (repeat (first | exact Upd.refl _ _ | assumption | apply Upd.drew | apply Upd.alloc | (refine Upd.setCell ?_ (fun h => absurd h (by first | exact Nat.lt_irrefl _ | (simp only []; omega))) _))); done)⟩
  case round =>
    obtain ⟨k, hk, rfl, ho⟩ := hrel
    have hu := ho.out.2.2
    obtain ⟨j1, j2, j3⟩ := hu.rules
    obtain ⟨oa, oc, rfl⟩ := ownsRow_slice ho.out.1
    have hkl := out_len (node := node) hk
    by_cases hlt : k < l.length
    · obtain ⟨p, hp⟩ : ∃ p, l[k]? = some p := ⟨l[k], by simp [hlt]⟩
      obtain ⟨g, rfl⟩ := ownsRow_some hh.out.row (by omega)
      have hgl := ownsRow_lt hh.out.row (g := g) rfl
      obtain ⟨e0, e1, e2⟩ := pk_cells hh.out.row hp
      have hph := Lib.hid hp
      have hbl2 : b < wr.heap.size := by omega
      have hgl2 : g < wr.heap.size := by omega
      clear hp hu
      cases hb : hitTo node p
      · have hne : ¬ p.to = node := by simpa [hitTo] using hb
        go_wp2_with (first
          | (with_reducible refine wp_serial (by kernel_rfl) (by kernel_rfl) (by (repeat (first | (with_reducible apply NoBad.then) | (with_reducible apply NoBad.inBlock) | (with_reducible exact NoBad.rets))); done) ?_)
          | (at_builtin; refine wpList_app (w := wr) (by (repeat (first | exact Ext.refl _ | assumption | apply Ext.drew | apply Ext.alloc)); done) rfl (.tmp 27) (.tmp 35) 29 rfl 33 i0 _ 3 32 Try.underlying29 hi hz0 hz1 hz2 rfl (by decide) _ _ _ ho.out.1 rfl _ _ _ [.int .i64 p.fr, .int .i64 p.to, .string p.by_] rfl rfl (alloc_last _ _ _ (by simp)) rfl (by omega) (by omega) ?_; intro ao' cap' w1 hr hu hf; have hr1 := Lib.hid hr; have hu1 := Lib.hid hu; have hf1 := Lib.hid hf; clear hr hu hf)
          | fail)
        go_roundw
        case rel => exact ⟨k + 1, by omega, by go_num, Lib.hid (out_no ho.out hph.out hb (by (repeat (first | exact Upd.refl _ _ | assumption | apply Upd.drew | apply Upd.alloc | (refine Upd.setCell ?_ (fun h => absurd h (by first | exact Nat.lt_irrefl _ | (simp only []; omega))) _))); done) hu1.out hr1.out hf1.out)⟩
        case measure => simp [intOf]; omega
      · have hne : p.to = node := by simpa [hitTo] using hb
        go_wp2_with (first | (with_reducible refine wp_serial (by kernel_rfl) (by kernel_rfl) (by (repeat (first | (with_reducible apply NoBad.then) | (with_reducible apply NoBad.inBlock) | (with_reducible exact NoBad.rets))); done) ?_) | fail)
        go_roundw
        case rel => exact ⟨k + 1, by omega, by go_num, Lib.hid (out_hit ho.out hph.out hb (Upd.refl _ _))⟩
        case measure => simp [intOf]; omega
    · obtain rfl : k = l.length := by omega
      have hbl2 : b < wr.heap.size := by omega
      have hkeep : keepL node (l.take l.length) = keepL node l := by rw [List.take_length]
      rw [hkeep] at hkl
      unfold OutIs at ho
      rw [hkeep] at ho ⊢
      clear hu
      go_wp2_with (first | (with_reducible refine wp_serial (by kernel_rfl) (by kernel_rfl) (by (repeat (first | (with_reducible apply NoBad.then) | (with_reducible apply NoBad.inBlock) | (with_reducible exact NoBad.rets))); done) ?_) | fail)
      go_ret
      refine ⟨rfl, NetTo.step (net_put hh.out (Upd.mono (Upd.trans ho.out.2.2 (by (repeat (first | exact Upd.refl _ _ | assumption | apply Upd.drew | apply Upd.alloc | (refine Upd.setCell ?_ (fun h => absurd h (by first | exact Nat.lt_irrefl _ | (simp only []; omega))) _))); done) (fun _ _ h => h)) (fun _ _ h => h.elim)) ho.out.1 (fun g hg => .inr (ho.out.2.1 g hg)))⟩
/-- Send: a network that is none -/
theorem send_nil (w : World) (p : Pk) :
    Calls Try.prog 10 #[.pointer none, p.val] w (Rets fun r w' => r = .int .i64 1 ∧ Upd0 w w') := by
  simp only [Pk.val]
  go_enter Try.func10, Try.ntmps10
  go_wp2_with (first | (with_reducible refine wp_serial (by kernel_rfl) (by kernel_rfl) (by (repeat (first | (with_reducible apply NoBad.then) | (with_reducible apply NoBad.inBlock) | (with_reducible exact NoBad.rets))); done) ?_) | (go_at_call 22; refine (within_any _ _ _ _).use ?_; rintro v w' ⟨rfl, rfl⟩))
  go_ret
  exact ⟨rfl, (by (repeat (first | exact Upd.refl _ _ | assumption | apply Upd.drew | apply Upd.alloc | (refine Upd.setCell ?_ (fun h => absurd h (by first | exact Nat.lt_irrefl _ | (simp only []; omega))) _))); done)⟩
theorem same_refl (w : World) (p : Pk) :
    Calls Try.prog 14 #[p.val, p.val] w (Rets fun r w' => r = .bool true ∧ Upd0 w w') := by
  simp only [Pk.val]
  go_enter Try.func14, Try.ntmps14
  go_wp2_with (first | (with_reducible refine wp_serial (by kernel_rfl) (by kernel_rfl) (by (repeat (first | (with_reducible apply NoBad.then) | (with_reducible apply NoBad.inBlock) | (with_reducible exact NoBad.rets))); done) ?_))
  go_ret
  exact ⟨rfl, (by (repeat (first | exact Upd.refl _ _ | assumption | apply Upd.drew | apply Upd.alloc | (refine Upd.setCell ?_ (fun h => absurd h (by first | exact Nat.lt_irrefl _ | (simp only []; omega))) _))); done)⟩
end Go.Proofs.Ytfhaehkofeiobaa
