/-
  Numbers as bytes, texts.
-/
import Derived.Test.YtdjleplefbmjbaaRdB
import Derived.Test.YtdjleplefbmjbaaU8
import Derived.Test.YtdjleplefbmjbaaByt
namespace Go.Proofs.Ytdjleplefbmjbaa
open Go.RowKit
set_option linter.unusedSimpArgs false
set_option linter.unusedVariables false
def w4 (n : Nat) : Bs := [UInt8.ofNat (n / 16777216), UInt8.ofNat (n / 65536), UInt8.ofNat (n / 256), UInt8.ofNat n]
def num (l : Bs) : Nat := l.foldl (fun n b => 256 * n + b.toNat) 0
theorem w4_cells {n : Nat} (hn : n < 4294967296) : ([.int .u8 ((n : Int) / 16777216), .int .u8 ((n : Int) / 65536 % 256), .int .u8 ((n : Int) / 256 % 256), .int .u8 ((n : Int) % 256)] : List Value) = byt (w4 n) := by
  simp only [byt, w4, List.map_cons, List.map_nil, UInt8.toNat_ofNat']
  congr 2
  · congr 1; omega
set_option maxRecDepth 100000 in
theorem long_w (B : Nat) (v : Value) (l : Bs) (n : Nat) (w : World) (h : BR 5 B w v l) (hB : B ≤ w.heap.size) (hn : n < 4294967296) (hl : l.length ≤ 1000000) :
    Calls Try.prog 67 #[v, .int .i64 n] w (Rets fun r w' => ∃ ao cap, r = .slice ao (l.length + 4) cap ∧ BR 5 B w' r (l ++ w4 n) ∧ Upd (fun k => v.ownBlock = some k) w w' ∧ Fresh w v r) := by
  obtain ⟨i0, hi, hz0, hz1, hz2⟩ := info_parts info_u8
  obtain ⟨ao, cap, rfl⟩ := h.isSlice
  have hh := Lib.hid h
  clear h
  go_enter Try.func67, Try.ntmps67
  go_wp2_with (first
    | (at_builtin; refine wpList_appB rfl (.tmp 5) (.tmp 17) 74 rfl 5 i0 Try.underlying74 hi hz0 hz1 hz2 (w4 n) rfl (hh.out.up (by (repeat (first | (with_reducible exact Upd.refl _ _) | (with_reducible assumption) | (with_reducible apply Upd.drew) | (with_reducible apply Upd.alloc) | (refine Upd0.tr ?_ (by with_reducible assumption)) | (refine Upd.setCell ?_ (fun h => absurd h (by first | exact Nat.lt_irrefl _ | (simp only []; omega))) _))); done)) (by simp only [World.size_alloc]; omega) w.heap.size 4 4 _ rfl (alloc_last _ _ _ (by simp)) (w4_cells hn) rfl (by simp [w4]; omega) ?_; intro ao' cap' w1 hb1 hu1 hf1; have hb1h := Lib.hid hb1; have hf1h := Lib.hid hf1; clear hb1 hf1)
    | (with_reducible refine wp_serial (by kernel_rfl) (by kernel_rfl) (by (repeat (first | (with_reducible apply NoBad.then) | (with_reducible apply NoBad.inBlock) | (with_reducible exact NoBad.rets))); done) ?_)
    | fail)
  go_returns
  exact ⟨ao', cap', rfl, hb1h.out, Upd.trans ((Upd.refl (fun k => (Value.slice ao l.length cap).ownBlock = some k) w).alloc _) hu1 (fun _ _ h => h), Fresh.trans (Fresh.refl _ _) hf1h.out (by simp)⟩
def textsB : Nat → Bs → Bool
  | _, [] => true
  | 0, _ :: _ => false
  | f + 1, k :: t => decide (k.toNat ≤ t.length) && textsB f (t.drop k.toNat)
theorem textsB_more : ∀ (f : Nat) (s : Bs), s.length ≤ f → textsB f s = textsB s.length s
  | 0, s, h => by
    have : s = [] := List.eq_nil_of_length_eq_zero (by omega)
    subst this; rfl
  | f + 1, [], _ => rfl
  | f + 1, k :: t, h => by
    simp only [List.length_cons] at h
    simp only [textsB, List.length_cons]
    congr 1
    rw [textsB_more f (t.drop k.toNat) (by simp; omega), ← textsB_more t.length (t.drop k.toNat) (by simp)]
def texO (s : Bs) : Bool := textsB s.length s
theorem texO_nil : texO [] = true := rfl
theorem texO_cons (k : UInt8) (t : Bs) : texO (k :: t) = (decide (k.toNat ≤ t.length) && texO (t.drop k.toNat)) := by
  unfold texO
  simp only [List.length_cons, textsB]
  rw [textsB_more t.length _ (by simp)]
def texts (s : Bs) : Bool := !s.isEmpty && texO s
set_option maxRecDepth 100000 in
theorem texts_w (s : Bs) (hm : s.length ≤ 70000) (w : World) : Calls Try.prog 81 #[.string ⟨s.toArray⟩] w (Rets fun r w' => r = .bool (texts s) ∧ Upd0 w w') := by
  go_enter Try.func81, Try.ntmps81
  go_wp2_with (first | (with_reducible refine wp_serial (by kernel_rfl) (by kernel_rfl) (by (repeat (first | (with_reducible apply NoBad.then) | (with_reducible apply NoBad.inBlock) | (with_reducible exact NoBad.rets))); done) ?_) | fail)
  go_loop [0] (fun x => ∃ t : Bs, x = .string ⟨t.toArray⟩ ∧ t.length ≤ s.length ∧ Hid (texO s = texO t)) (fun x => match x with | .string s => s.size | _ => 0)
  case atStart => exact ⟨s, rfl, Nat.le_refl _, Lib.hid rfl⟩
  case round =>
    obtain ⟨t, rfl, hts, ht⟩ := hrel
    cases t with
    | nil =>
      go_wp2_with (first | (with_reducible refine wp_serial (by kernel_rfl) (by kernel_rfl) (by (repeat (first | (with_reducible apply NoBad.then) | (with_reducible apply NoBad.inBlock) | (with_reducible exact NoBad.rets))); done) ?_) | fail)
      all_goals go_returns
      exact ⟨by simp [texts, ht.out, texO_nil], Upd.refl _ _⟩
    | cons k t =>
      simp only [List.length_cons] at hts
      have hkb := k.toNat_lt
      have hd := Lib.hid (show List.drop (1 + k.toNat) (k :: t) = t.drop k.toNat by rw [Nat.add_comm]; rfl)
      rcases Nat.lt_or_ge t.length k.toNat with hk | hk
      · go_wp2_with (first | (with_reducible refine wp_serial (by kernel_rfl) (by kernel_rfl) (by (repeat (first | (with_reducible apply NoBad.then) | (with_reducible apply NoBad.inBlock) | (with_reducible exact NoBad.rets))); done) ?_) | fail)
        all_goals go_returns
        have : ¬ k.toNat ≤ t.length := by omega
        exact ⟨by simp [texts, ht.out, texO_cons, this], Upd.refl _ _⟩
      · go_wp2_with (first | (with_reducible refine wp_serial (by kernel_rfl) (by kernel_rfl) (by (repeat (first | (with_reducible apply NoBad.then) | (with_reducible apply NoBad.inBlock) | (with_reducible exact NoBad.rets))); done) ?_) | fail)
        go_round
        case rel => exact ⟨t.drop k.toNat, by rw [hd.out], by simp; omega, Lib.hid (by rw [ht.out, texO_cons]; simp [hk])⟩
        case measure => rw [hd.out]; simp only [ByteArray.size, List.size_toArray, List.length_drop, List.length_cons]; omega
end Go.Proofs.Ytdjleplefbmjbaa
