/-
  The program's reader of messages: number.
-/
import Derived.Test.YtgdejgfmhndbhaaDeA
namespace Go.Proofs.Ytgdejgfmhndbhaa
open Go.RowKit
set_option linter.unusedSimpArgs false
set_option linter.unusedVariables false
def nuR (s : Bs) (r : Rk) (n : Nat) : Rk := takR s r n
def nuN (s : Bs) (r : Rk) (n : Nat) : Nat := num (takS s r n)
theorem takS_len (s : Bs) (r : Rk) (n : Nat) : (takS s r n).length ≤ n := by
  unfold takS; split <;> simp; omega
set_option maxRecDepth 100000 in
theorem num_w (t : Nat) (s : Bs) (r : Rk) (n : Nat) (w : World) (h : RkM w t s r) (hs : s.length ≤ 70000) (hp : r.p ≤ 70000) (hn : n ≤ 4) :
    Calls Try.prog 49 #[.pointer (some ⟨t, 0, none⟩), .int .i64 n] w (Rets fun v w' => v = .int .i64 (nuN s r n) ∧ RkM w' t s (nuR s r n) ∧ UpdT t w w') := by
  have hlt := h.lt
  have hT := Lib.hid (fun (w' : World) (k : Upd0 w w') => take_w t s r n w' (h.to0 k) hs hp (by omega))
  have hl4 := takS_len s r n
  obtain ⟨l, hl⟩ : ∃ l, takS s r n = l := ⟨_, rfl⟩
  obtain ⟨q, hq⟩ : ∃ q, takR s r n = q := ⟨_, rfl⟩
  rw [nuN, nuR]
  rw [hl, hq] at hT ⊢
  rw [hl] at hl4
  clear h hl hq
  go_enter Try.func49, Try.ntmps49
  go_wp2_with (first
    | (go_at_call 69; (with_reducible refine (hT.out _ (by repeat first | with_reducible (first | exact Upd.refl _ _ | assumption | apply Upd.drew | apply Upd.alloc) | refine Upd0.tr ?_ (by with_reducible assumption) | refine Upd.setCell ?_ (fun h => absurd h (by first | exact Nat.lt_irrefl _ | (simp only []; omega))) _)).use ?_); rintro v w1 ⟨rfl, hr1, hu1⟩; have hr1h := Lib.hid hr1; have hlt1 := hr1.lt; clear hr1)
    | (refine wpList_toB rfl (.tmp 10) 9 38 rfl 5 Try.underlying9 Try.underlying38 Try.underlying5 l rfl (by unfold maxLen; omega) ?_; intro cap w2 hb1 hu2 hz1; have hb1h := Lib.hid hb1; have hr2h := Lib.hid (hr1h.out.to0 hu2); clear hb1)
    | (with_reducible refine wp_serial (by kernel_rfl) (by kernel_rfl) (by repeat with_reducible (first | apply NoBad.then | apply NoBad.inBlock | apply NoBad.jump | exact NoBad.rets)) ?_) | fail)
  go_loopw [5, 13] (fun x i wr => ∃ k a : Nat, k ≤ l.length ∧ i = .int .i64 k ∧ x = .int .i64 a ∧ a < 4294967296 ∧ Hid (a = num (l.take k)) ∧ wr = w2) (fun _ i _ => l.length - (intOf i).toNat)
  case atStart => exact ⟨0, 0, Nat.zero_le _, rfl, rfl, by omega, Lib.hid (by simp [num]), rfl⟩
  case round =>
    obtain ⟨k, a, hk, rfl, rfl, hal, ha, rfl⟩ := hrel
    by_cases hlt : k < l.length
    · have hc := hb1h.out.cell (i := k) hlt
      have hf := hb1h.out.frz (i := k) hlt
      obtain ⟨c, hcc⟩ : ∃ c, l[k] = c := ⟨_, rfl⟩
      have hcb := c.toNat_lt
      have hx : l.take (k + 1) = l.take k ++ [c] := by rw [List.take_succ_eq_append_getElem hlt, hcc]
      have hn1 := Lib.hid (show num (l.take (k + 1)) = 256 * a + c.toNat by rw [hx, num_snoc, ← ha.out])
      have hn2 : 256 * a + c.toNat < 4294967296 := by
        rw [← hn1.out]
        have h1 := num_lt (l.take (k + 1))
        have h2 : (l.take (k + 1)).length ≤ 4 := by simp; omega
        have h3 : 256 ^ (l.take (k + 1)).length ≤ 256 ^ 4 := Nat.pow_le_pow_right (by decide) h2
        exact Nat.lt_of_lt_of_le h1 (Nat.le_trans h3 (by decide))
      have hor := or8 a c (by omega)
      rw [hcc] at hc
      clear hx hcc
      go_wp2_with (first | (with_reducible refine wp_serial (by kernel_rfl) (by kernel_rfl) (by repeat with_reducible (first | apply NoBad.then | apply NoBad.inBlock | apply NoBad.jump | exact NoBad.rets)) ?_) | fail)
      go_roundw
      case rel => exact ⟨k + 1, 256 * a + c.toNat, by omega, by go_num, by go_num, hn2, Lib.hid (by rw [hn1.out]), by first | trivial | rfl⟩
      case measure => simp [intOf]; omega
    · have e : a = num l := by rw [ha.out, List.take_of_length_le (by omega)]
      go_wp2_with (first | (with_reducible refine wp_serial (by kernel_rfl) (by kernel_rfl) (by repeat with_reducible (first | apply NoBad.then | apply NoBad.inBlock | apply NoBad.jump | exact NoBad.rets)) ?_) | fail)
      go_returns
      exact ⟨by rw [e]; rfl, hr2h.out, hu1.tr (UpdT.of0 hu2)⟩
theorem num1_w (t : Nat) (s : Bs) (r : Rk) (w : World) (h : RkM w t s r) (hs : s.length ≤ 70000) (hp : r.p ≤ 70000) :
    Calls Try.prog 49 #[.pointer (some ⟨t, 0, none⟩), .int .i64 1] w (Rets fun v w' => v = .int .i64 (nuN s r 1) ∧ RkM w' t s (nuR s r 1) ∧ UpdT t w w') := num_w t s r 1 w h hs hp (by decide)
theorem num2_w (t : Nat) (s : Bs) (r : Rk) (w : World) (h : RkM w t s r) (hs : s.length ≤ 70000) (hp : r.p ≤ 70000) :
    Calls Try.prog 49 #[.pointer (some ⟨t, 0, none⟩), .int .i64 2] w (Rets fun v w' => v = .int .i64 (nuN s r 2) ∧ RkM w' t s (nuR s r 2) ∧ UpdT t w w') := num_w t s r 2 w h hs hp (by decide)
theorem num4_w (t : Nat) (s : Bs) (r : Rk) (w : World) (h : RkM w t s r) (hs : s.length ≤ 70000) (hp : r.p ≤ 70000) :
    Calls Try.prog 49 #[.pointer (some ⟨t, 0, none⟩), .int .i64 4] w (Rets fun v w' => v = .int .i64 (nuN s r 4) ∧ RkM w' t s (nuR s r 4) ∧ UpdT t w w') := num_w t s r 4 w h hs hp (by decide)
theorem want_is (t : Nat) (s : Bs) (r : Rk) (is b : Bool) (x : Int) (hx : ¬ x = 0) (w : World) (h : RkM w t s r) (hb : is = b) :
    Calls Try.prog 50 #[.pointer (some ⟨t, 0, none⟩), .bool is, .int .i64 x] w (Rets fun v w' => v = .bool (decide ((r.want b x).e = 0)) ∧ RkM w' t s (r.want b x) ∧ UpdT t w w') := by
  subst hb; exact want_w t s r is x hx w h
end Go.Proofs.Ytgdejgfmhndbhaa
