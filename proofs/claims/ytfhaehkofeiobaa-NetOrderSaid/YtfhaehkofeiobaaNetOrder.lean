/-
  NetOrder: proved.
-/
import Derived.Test.YtfhaehkofeiobaaNetDoubles
namespace Go.Proofs.Ytfhaehkofeiobaa
open Go.ChangeShapes Go.WideShapes Go.ChangeAt Go.RowKit
set_option linter.unusedSimpArgs false
set_option linter.unusedVariables false

def mk12 (s : ByteArray) : Pk := ⟨1, 2, s⟩
theorem mk12_ok {s : ByteArray} (h : strOk s = true) : okPk 3 (mk12 s) = true := by
  simp only [strOk, Bool.and_eq_true, decide_eq_true_eq] at h
  obtain ⟨h1, h2⟩ := h
  have e : okPk 3 (mk12 s) = (decide ((1 : Int) ≤ s.size) && decide ((s.size : Int) ≤ 65535)) := rfl
  rw [e, Bool.and_eq_true, decide_eq_true_eq, decide_eq_true_eq]
  exact ⟨by omega, by omega⟩
theorem mk12_send {ss : List ByteArray} {k r : Nat} {s : ByteArray} (hs : ss[k]? = some s) (h : strOk s = true) : sendC 3 r ((ss.take (min k r)).map mk12) (mk12 s) = (if k < r then 0 else 4) ∧
    sendL 3 r ((ss.take (min k r)).map mk12) (mk12 s) = (ss.take (min (k + 1) r)).map mk12 := by
  have hk := (List.getElem?_eq_some_iff.1 hs).1
  have hl : ((ss.take (min k r)).map mk12).length = min k r := by simp; omega
  by_cases hr : k < r
  · have h1 : ¬ (r : Int) ≤ ((ss.take (min k r)).map mk12).length := by rw [hl]; omega
    rw [sendC, sendL, if_pos (mk12_ok h), if_pos (mk12_ok h), if_neg h1, if_neg h1, if_pos hr]
    refine ⟨rfl, ?_⟩
    rw [show min k r = k by omega, show min (k + 1) r = k + 1 by omega, List.take_add_one, hs]
    simp
  · have h1 : (r : Int) ≤ ((ss.take (min k r)).map mk12).length := by rw [hl]; omega
    rw [sendC, sendL, if_pos (mk12_ok h), if_pos (mk12_ok h), if_pos h1, if_pos h1, if_neg hr]
    exact ⟨rfl, by rw [show min k r = r by omega, show min (k + 1) r = r by omega]⟩
theorem take_zero (x : Pk) (l : List Pk) : lookP (x :: l) 0 = x ∧ lookB (x :: l) 0 = true ∧ takeL (x :: l) 0 = l := by
  have h : lookB (x :: l) 0 = true := by simp [lookB]
  refine ⟨?_, h, by rw [takeL, if_pos h]; rfl⟩
  rw [lookP, if_pos (by simp)]; rfl
set_option maxHeartbeats 1000000 in
theorem netOrder_walk (ao : Option Addr) (cap : Nat) (ss : List ByteArray) (room : Int) (w : World) (hS : StrsIn w ao ss) (hlen : ss.length ≤ maxLen) :
    Calls Try.prog 5 #[.slice ao ss.length cap, .int .i64 room] w (Rets fun r w' => r = .bool true ∧ Upd0 w w') := by
  have hSh := Lib.hid hS
  clear hS
  simp only [maxLen] at hlen
  have hcase : 60 < ss.length ∨ (ss.length ≤ 60 ∧ room < 1) ∨ (ss.length ≤ 60 ∧ 1 ≤ room ∧ 1000 < room) ∨ (ss.length ≤ 60 ∧ 1 ≤ room ∧ room ≤ 1000) := by omega
  rcases hcase with h1 | ⟨h1, h2⟩ | ⟨h1, h2, h3⟩ | ⟨h60, hr1, hr2⟩
  iterate 3
    · go_enter Try.func5, Try.ntmps5
      go_wp2_with (first
        | (with_reducible refine wp_serial (by kernel_rfl) (by kernel_rfl) (by (repeat (first | (with_reducible apply NoBad.then) | (with_reducible apply NoBad.inBlock) | (with_reducible exact NoBad.rets))); done) ?_)
        | (go_at_call 9; refine (live_any _).use ?_; rintro v w1 ⟨rfl, hu⟩; have hl1 := Lib.hid hu; clear hu)
        | fail)
      go_ret
      exact ⟨rfl, Upd.trans (by (repeat (first | exact Upd.refl _ _ | assumption | apply Upd.drew | apply Upd.alloc | (refine Upd.setCell ?_ (fun h => absurd h (by first | exact Nat.lt_irrefl _ | (simp only []; omega))) _))); done) hl1.out (fun _ _ h => h)⟩
  obtain ⟨r, rfl⟩ := Int.eq_ofNat_of_zero_le (show 0 ≤ room by omega)
  go_enter Try.func5, Try.ntmps5
  go_wp2_with (first
    | (with_reducible refine wp_serial (by kernel_rfl) (by kernel_rfl) (by (repeat (first | (with_reducible apply NoBad.then) | (with_reducible apply NoBad.inBlock) | (with_reducible exact NoBad.rets))); done) ?_)
    | (go_at_call 8; refine (newA (w0 := w) 3 r (by (repeat (first | exact Upd.refl _ _ | assumption | apply Upd.drew | apply Upd.alloc | (refine Upd.setCell ?_ (fun h => absurd h (by first | exact Nat.lt_irrefl _ | (simp only []; omega))) _))); done) ⟨by decide, by decide, hr1, hr2⟩).use ?_; rintro v w1 ⟨b, rfl, hb1, hn1, hu1⟩; have h1 := Lib.hid hn1; clear hn1 hu1)
    | fail)
  go_loopw [7] (fun j wr => ∃ k : Nat, k ≤ ss.length ∧ j = .int .i64 k ∧ Hid (NetAt 55 37 w wr [] b 3 r ((ss.take (min k r)).map mk12))) (fun j _ => ss.length - (intOf j).toNat)
  case atStart => exact ⟨0, Nat.zero_le _, rfl, Lib.hid (by simpa using h1.out.up (by (repeat (first | exact Upd.refl _ _ | assumption | apply Upd.drew | apply Upd.alloc | (refine Upd.setCell ?_ (fun h => absurd h (by first | exact Nat.lt_irrefl _ | (simp only []; omega))) _))); done))⟩
  case round =>
    obtain ⟨k, hk, rfl, hn⟩ := hrel
    by_cases hlt : k < ss.length
    · obtain ⟨s, hs⟩ : ∃ s, ss[k]? = some s := ⟨ss[k], by simp [hlt]⟩
      obtain ⟨a, rfl, hc, hsz⟩ := (hSh.out.up hn.out.upd) k s hs
      have hsh := Lib.hid hs
      clear hs
      have hw : s.size < 1 ∨ (1 ≤ s.size ∧ 1000 < s.size) ∨ (1 ≤ s.size ∧ s.size ≤ 1000) := by omega
      rcases hw with hw | ⟨hw, hw2⟩ | ⟨hw, hw2⟩
      · go_wp2_with (first
          | (with_reducible refine wp_serial (by kernel_rfl) (by kernel_rfl) (by (repeat (first | (with_reducible apply NoBad.then) | (with_reducible apply NoBad.inBlock) | (with_reducible exact NoBad.rets))); done) ?_)
          | (go_at_call 9; refine (live_any _).use ?_; rintro v w2 ⟨rfl, hu⟩; have h2 := Lib.hid hu; clear hu)
          | fail)
        go_ret
        exact ⟨rfl, Upd.trans (Upd.trans hn.out.upd (by (repeat (first | exact Upd.refl _ _ | assumption | apply Upd.drew | apply Upd.alloc | (refine Upd.setCell ?_ (fun h => absurd h (by first | exact Nat.lt_irrefl _ | (simp only []; omega))) _))); done) (fun _ _ h => h)) h2.out (fun _ _ h => h)⟩
      · go_wp2_with (first
          | (with_reducible refine wp_serial (by kernel_rfl) (by kernel_rfl) (by (repeat (first | (with_reducible apply NoBad.then) | (with_reducible apply NoBad.inBlock) | (with_reducible exact NoBad.rets))); done) ?_)
          | (go_at_call 9; refine (live_any _).use ?_; rintro v w2 ⟨rfl, hu⟩; have h2 := Lib.hid hu; clear hu)
          | fail)
        go_ret
        exact ⟨rfl, Upd.trans (Upd.trans hn.out.upd (by (repeat (first | exact Upd.refl _ _ | assumption | apply Upd.drew | apply Upd.alloc | (refine Upd.setCell ?_ (fun h => absurd h (by first | exact Nat.lt_irrefl _ | (simp only []; omega))) _))); done) (fun _ _ h => h)) h2.out (fun _ _ h => h)⟩
      · have hb : strOk s = true := by simp [strOk]; omega
        obtain ⟨e1, e2⟩ := mk12_send (r := r) hsh.out hb
        have e1h := Lib.hid e1
        have e2h := Lib.hid e2
        clear hb e1 e2
        by_cases hkr : k < r
        · have e3h := Lib.hid (e1h.out.trans (if_pos hkr))
          go_wp2_with (first
            | (with_reducible refine wp_serial (by kernel_rfl) (by kernel_rfl) (by (repeat (first | (with_reducible apply NoBad.then) | (with_reducible apply NoBad.inBlock) | (with_reducible exact NoBad.rets))); done) ?_)
            | (go_at_call 10; refine (sendA (w0 := w) (b := b) (nd := 3) (rm := r) (mk12 s) (hn.out.up (by (repeat (first | exact Upd.refl _ _ | assumption | apply Upd.drew | apply Upd.alloc | (refine Upd.setCell ?_ (fun h => absurd h (by first | exact Nat.lt_irrefl _ | (simp only []; omega))) _))); done)) (by decide) (by decide) hr2).use ?_; rintro v w2 ⟨rfl, hn2, -⟩; rw [e3h.out]; rw [e2h.out] at hn2; have h2 := Lib.hid hn2; clear hn2)
            | fail)
          go_roundw
          case rel => exact ⟨k + 1, by omega, by go_num, Lib.hid (h2.out.up (by (repeat (first | exact Upd.refl _ _ | assumption | apply Upd.drew | apply Upd.alloc | (refine Upd.setCell ?_ (fun h => absurd h (by first | exact Nat.lt_irrefl _ | (simp only []; omega))) _))); done))⟩
          case measure => simp [intOf]; omega
        · have e3h := Lib.hid (e1h.out.trans (if_neg hkr))
          go_wp2_with (first
            | (with_reducible refine wp_serial (by kernel_rfl) (by kernel_rfl) (by (repeat (first | (with_reducible apply NoBad.then) | (with_reducible apply NoBad.inBlock) | (with_reducible exact NoBad.rets))); done) ?_)
            | (go_at_call 10; refine (sendA (w0 := w) (b := b) (nd := 3) (rm := r) (mk12 s) (hn.out.up (by (repeat (first | exact Upd.refl _ _ | assumption | apply Upd.drew | apply Upd.alloc | (refine Upd.setCell ?_ (fun h => absurd h (by first | exact Nat.lt_irrefl _ | (simp only []; omega))) _))); done)) (by decide) (by decide) hr2).use ?_; rintro v w2 ⟨rfl, hn2, -⟩; rw [e3h.out]; rw [e2h.out] at hn2; have h2 := Lib.hid hn2; clear hn2)
            | fail)
          go_roundw
          case rel => exact ⟨k + 1, by omega, by go_num, Lib.hid (h2.out.up (by (repeat (first | exact Upd.refl _ _ | assumption | apply Upd.drew | apply Upd.alloc | (refine Upd.setCell ?_ (fun h => absurd h (by first | exact Nat.lt_irrefl _ | (simp only []; omega))) _))); done))⟩
          case measure => simp [intOf]; omega
    · obtain rfl : k = ss.length := by omega
      go_wp2_with (first | (with_reducible refine wp_serial (by kernel_rfl) (by kernel_rfl) (by (repeat (first | (with_reducible apply NoBad.then) | (with_reducible apply NoBad.inBlock) | (with_reducible exact NoBad.rets))); done) ?_) | fail)
      go_loopw [8] (fun j wr => ∃ k : Nat, k ≤ min ss.length r ∧ j = .int .i64 k ∧ Hid (NetAt 55 37 w wr [] b 3 r (((ss.take (min ss.length r)).drop k).map mk12))) (fun j _ => ss.length - (intOf j).toNat)
      case atStart => exact ⟨0, Nat.zero_le _, rfl, Lib.hid (by simpa using hn.out.up (by (repeat (first | exact Upd.refl _ _ | assumption | apply Upd.drew | apply Upd.alloc | (refine Upd.setCell ?_ (fun h => absurd h (by first | exact Nat.lt_irrefl _ | (simp only []; omega))) _))); done))⟩
      case round =>
        obtain ⟨k, hk2, rfl, hn2⟩ := hrel
        have hk3 : k ≤ ss.length ∧ k ≤ r := by omega
        clear hk2
        obtain ⟨hk2, hk3⟩ := hk3
        by_cases hlt2 : k < ss.length
        · by_cases hr3 : k < r
          · obtain ⟨s, hs⟩ : ∃ s, ss[k]? = some s := ⟨ss[k], by simp [hlt2]⟩
            obtain ⟨a, rfl, hc, hsz⟩ := hSh.out k s hs
            have hch := Lib.hid hc
            clear hc
            have hdr : ((ss.take (min ss.length r)).drop k).map mk12 = mk12 s :: ((ss.take (min ss.length r)).drop (k + 1)).map mk12 := by
              rw [List.drop_eq_getElem_cons (by simp; omega), List.map_cons]
              congr 2
              have := List.getElem?_eq_some_iff.1 hs
              rw [List.getElem_take]; exact this.2
            have hdl : (((ss.take (min ss.length r)).drop (k + 1)).map mk12).length ≤ 60 := by simp; omega
            obtain ⟨t1, t2, t3⟩ := take_zero (mk12 s) (((ss.take (min ss.length r)).drop (k + 1)).map mk12)
            have hn3 := hn2.out
            rw [hdr] at hn3
            have hn4 := hn3
            obtain ⟨rest, hrest⟩ : ∃ rest, ((ss.take (min ss.length r)).drop (k + 1)).map mk12 = rest := ⟨_, rfl⟩
            rw [hrest] at hdl t1 t2 t3 hn4
            have hresth := Lib.hid hrest
            clear hrest
            have hn4h := Lib.hid hn4
            clear hn4
            have t1h := Lib.hid t1
            have t2h := Lib.hid t2
            have t3h := Lib.hid t3
            have m3 : (mk12 s).by_ = s := rfl
            have m1 : (mk12 s).fr = 1 := rfl
            have m2 : (mk12 s).to = 2 := rfl
            clear hs hdr t1 t2 t3 hn3
            go_wp2_with (first
              | (with_reducible refine wp_serial (by kernel_rfl) (by kernel_rfl) (by (repeat (first | (with_reducible apply NoBad.then) | (with_reducible apply NoBad.inBlock) | (with_reducible exact NoBad.rets))); done) ?_)
              | (go_at_call 12; refine (takeA (w0 := w) (b := b) (nd := 3) (rm := r) (l := mk12 s :: rest) (hn4h.out.up (by (repeat (first | exact Upd.refl _ _ | assumption | apply Upd.drew | apply Upd.alloc | (refine Upd.setCell ?_ (fun h => absurd h (by first | exact Nat.lt_irrefl _ | (simp only []; omega))) _))); done)) (by simp; omega) 0).use ?_; rintro v w2 ⟨rfl, hn5, -⟩; rw [t1h.out, t2h.out]; rw [t3h.out] at hn5; have h5 := Lib.hid hn5; clear hn5; have e4 := h5.out.upd.cell (fun h => h) hch.out; have e5 := World.block_lt_of_cell? w2 _ e4)
              | fail)
            go_roundw
            case rel => exact ⟨k + 1, by omega, by go_num, Lib.hid (by rw [hresth.out]; exact h5.out.up (by (repeat (first | exact Upd.refl _ _ | assumption | apply Upd.drew | apply Upd.alloc | (refine Upd.setCell ?_ (fun h => absurd h (by first | exact Nat.lt_irrefl _ | (simp only []; omega))) _))); done))⟩
            case measure => simp [intOf]; omega
          · have hne : Hid (NetAt 55 37 w wr [] b 3 r []) := Lib.hid (by
              have := hn2.out
              rwa [List.drop_eq_nil_of_le (by simp; omega), List.map_nil] at this)
            go_wp2_with (first
              | (with_reducible refine wp_serial (by kernel_rfl) (by kernel_rfl) (by (repeat (first | (with_reducible apply NoBad.then) | (with_reducible apply NoBad.inBlock) | (with_reducible exact NoBad.rets))); done) ?_)
              | (go_at_call 21; refine (lenA (hne.out.up (by (repeat (first | exact Upd.refl _ _ | assumption | apply Upd.drew | apply Upd.alloc | (refine Upd.setCell ?_ (fun h => absurd h (by first | exact Nat.lt_irrefl _ | (simp only []; omega))) _))); done))).use ?_; rintro v w3 ⟨rfl, rfl⟩)
              | (go_at_call 9; refine (live_any _).use ?_; rintro v w4 ⟨rfl, hu⟩; have h4 := Lib.hid hu; clear hu)
              | fail)
            all_goals go_ret
            all_goals exact ⟨rfl, Upd.trans (Upd.trans hne.out.upd (by (repeat (first | exact Upd.refl _ _ | assumption | apply Upd.drew | apply Upd.alloc | (refine Upd.setCell ?_ (fun h => absurd h (by first | exact Nat.lt_irrefl _ | (simp only []; omega))) _))); done) (fun _ _ h => h)) h4.out (fun _ _ h => h)⟩
        · have hne : Hid (NetAt 55 37 w wr [] b 3 r []) := Lib.hid (by
            have := hn2.out
            rwa [List.drop_eq_nil_of_le (by simp; omega), List.map_nil] at this)
          go_wp2_with (first
            | (with_reducible refine wp_serial (by kernel_rfl) (by kernel_rfl) (by (repeat (first | (with_reducible apply NoBad.then) | (with_reducible apply NoBad.inBlock) | (with_reducible exact NoBad.rets))); done) ?_)
            | (go_at_call 21; refine (lenA (hne.out.up (by (repeat (first | exact Upd.refl _ _ | assumption | apply Upd.drew | apply Upd.alloc | (refine Upd.setCell ?_ (fun h => absurd h (by first | exact Nat.lt_irrefl _ | (simp only []; omega))) _))); done))).use ?_; rintro v w3 ⟨rfl, rfl⟩)
            | (go_at_call 9; refine (live_any _).use ?_; rintro v w4 ⟨rfl, hu⟩; have h4 := Lib.hid hu; clear hu)
            | fail)
          all_goals go_ret
          all_goals exact ⟨rfl, Upd.trans (Upd.trans hne.out.upd (by (repeat (first | exact Upd.refl _ _ | assumption | apply Upd.drew | apply Upd.alloc | (refine Upd.setCell ?_ (fun h => absurd h (by first | exact Nat.lt_irrefl _ | (simp only []; omega))) _))); done) (fun _ _ h => h)) h4.out (fun _ _ h => h)⟩
theorem netOrder_contract (H : Type) (enc : TypeId × Value → H) (W : World) (base : Nat) (args : Array Value) (ds gs : List (DataW H)) (before : List MemPlace)
    (hval : ∀ (j : Nat) t v, Try.f5.params[j]? = some t → args[j]? = some v → Value.okWide Try.prog W .any base t v)
    (hW : DataW.Whole enc Try.prog Try.f5.params.toList Rows.netOrderSpec.vars false W args.toList ds gs before) :
    Calls Try.prog 5 args W fun e W' => ∃ v, e = .returned v ∧ Rows.netOrderSpec.post enc Try.prog Try.f5 false true false false W args v W' := by
  have hW' := hW
  obtain ⟨p, q, hA0, hV, rfl, hfz, hnd⟩ := hW
  have hA : DataW.TrodAll enc Try.prog W 0 (fun _ => true) true Try.f5.params.toList args.toList ds p := hA0
  rw [Try.params5] at hA hval
  obtain ⟨v0, vs0, d0, ds0, p0, q0, hargs, rfl, rfl, h0, r0⟩ := trodAll_cons hA
  obtain ⟨v1, vs1, d1, ds1, p1, q1, rfl, rfl, rfl, h1, r1⟩ := trodAll_cons r0
  obtain ⟨rfl, rfl, rfl⟩ := trodAll_nil r1
  obtain rfl : args = #[v0, v1] := by cases args; simp_all
  obtain ⟨ao, cap, ss, rfl, hS, hlen⟩ := strs_of (okWide_slice Try.underlying49 (hval 0 49 v0 rfl rfl)) (reads_trod (ty := .slice .str) (by kernel_rfl) h0)
  obtain ⟨i, rfl, rfl, rfl, wi⟩ := open_int Try.underlying3 (hval 1 3 v1 rfl rfl) h1
  refine (netOrder_walk ao cap ss i W hS hlen).mono fun e W1 he => ?_
  cases e with
  | returned r =>
    obtain ⟨rfl, hU⟩ := he
    exact ⟨_, rfl, law_post TrylaidOut (by kernel_rfl) Try.underlying4 rfl (by kernel_rfl) (fun p hp => rfl) hW' hU⟩
  | _ => exact he.elim
set_option maxRecDepth 100000 in
theorem netOrder_lifted (os : Os) (started : os.Started) (H : Type) (enc : TypeId × Value → H) :
    ReturnsInHanded {} Try.checked os 5 .any (Rows.netOrderSpec.pre6 enc Try.prog Try.f5 Rows.netOrderRow.domain false) (Rows.netOrderSpec.post enc Try.prog Try.f5 false true false false) := by
  refine returnsInHanded_of_change (C := Try.checked) Tryown started (by kernel_rfl) Try.func5
    (ChangeSpec.witness6 (enc := enc) (C := Try.checked) false ⟨#[], #[.slice none 0 0, .int .i64 0], []⟩ 8 (by kernel_rfl) (by kernel_rfl) (by kernel_rfl) (by kernel_rfl)) ?_
  intro W base args ds gs before hval hW hcnd _
  exact netOrder_contract H enc W base args ds gs before hval hW
theorem netOrder_holds : Rows.NetOrderSaid :=
  OpenClaim.holds_of_wide 5 Try.f5 rfl rfl rfl rfl rfl rfl rfl ⟨rfl, rfl, rfl, rfl, rfl⟩ rfl rfl rfl rfl rfl (by kernel_rfl) Try.func5 (by kernel_rfl)
    (of_decide_eq_true (by kernel_rfl)) (by unfold Func.isWrapper; first | (rw [if_pos (by decide +kernel)]; kernel_rfl) | (rw [if_neg (by decide +kernel)]; exact ⟨rfl, rfl⟩))
    (fun os started H enc _ => netOrder_lifted os started H enc)
end Go.Proofs.Ytfhaehkofeiobaa
