/-
  Beginnings of authority.
-/
import Derived.Test.YtdjleplefbmjbaaRdD
namespace Go.Proofs.Ytdjleplefbmjbaa
open Go.RowKit
set_option linter.unusedSimpArgs false
set_option linter.unusedVariables false
theorem bits_or_i64 (a b : Nat) (ha : a < 4611686018427387904) (hb : b < 4611686018427387904) : bits .or .i64 (a : Int) (b : Int) = ((a ||| b : Nat) : Int) := by
  have hx : a ||| b < 2 ^ 62 := Nat.or_lt_two_pow (by omega) (by omega)
  have h1 : (BitVec.ofInt 64 (a : Int)).toNat = a := by
    rw [BitVec.ofInt_natCast, BitVec.toNat_ofNat]; exact Nat.mod_eq_of_lt (by omega)
  have h2 : (BitVec.ofInt 64 (b : Int)).toNat = b := by
    rw [BitVec.ofInt_natCast, BitVec.toNat_ofNat]; exact Nat.mod_eq_of_lt (by omega)
  show IntKind.i64.wrap ((BitVec.ofInt 64 (a : Int) ||| BitVec.ofInt 64 (b : Int)).toNat : Int) = _
  rw [BitVec.toNat_or, h1, h2]
  exact IntWalk.i64_in _ (by omega)
theorem bits_and_i64 (a b : Nat) (ha : a < 4611686018427387904) (hb : b < 4611686018427387904) : bits .and .i64 (a : Int) (b : Int) = ((a &&& b : Nat) : Int) := by
  have hx : a &&& b < 2 ^ 62 := Nat.and_lt_two_pow _ (by omega)
  have h1 : (BitVec.ofInt 64 (a : Int)).toNat = a := by
    rw [BitVec.ofInt_natCast, BitVec.toNat_ofNat]; exact Nat.mod_eq_of_lt (by omega)
  have h2 : (BitVec.ofInt 64 (b : Int)).toNat = b := by
    rw [BitVec.ofInt_natCast, BitVec.toNat_ofNat]; exact Nat.mod_eq_of_lt (by omega)
  show IntKind.i64.wrap ((BitVec.ofInt 64 (a : Int) &&& BitVec.ofInt 64 (b : Int)).toNat : Int) = _
  rw [BitVec.toNat_and, h1, h2]
  exact IntWalk.i64_in _ (by omega)
theorem or8 (n : Nat) (c : UInt8) (hn : n < 1099511627776) : bits .or .i64 ((n : Int) * 256) (c.toNat : Int) = ((256 * n + c.toNat : Nat) : Int) := by
  have hc := c.toNat_lt
  have h1 : ((n : Int) * 256) = ((256 * n : Nat) : Int) := by omega
  rw [h1, bits_or_i64 _ _ (by omega) (by omega), show 256 = 2 ^ 8 from rfl, ← Nat.two_pow_add_eq_or_of_lt (by omega)]
def at4 (r : Bs) (i : Nat) : Nat := num ((r.drop (4 * i)).take 4)
set_option maxRecDepth 100000 in
theorem at_w (r : Bs) (hr : r.length = 20) (i : Nat) (hi : i < 5) (b : Nat) (w : World) (hc : w.cell? ⟨b, 0, none⟩ = some (.string ⟨r.toArray⟩)) : Calls Try.prog 77 #[.int .i64 i, .pointer (some ⟨b, 0, none⟩)] w (Rets fun v w' => v = .int .i64 (at4 r i) ∧ w = w') := by
  have hr1 : r.length ≤ 20 := by omega
  have hr2 : 20 ≤ r.length := by omega
  clear hr
  go_enter Try.func77, Try.ntmps77
  go_wp2_with (first | (with_reducible refine wp_serial (by kernel_rfl) (by kernel_rfl) (by (repeat (first | (with_reducible apply NoBad.then) | (with_reducible apply NoBad.inBlock) | (with_reducible exact NoBad.rets))); done) ?_) | fail)
  go_loop [4, 6] (fun x y => ∃ k n : Nat, y = .int .i64 k ∧ x = .int .i64 n ∧ k ≤ 4 ∧ n < 4294967296 ∧ Hid (n = num ((r.drop (4 * i)).take k))) (fun _ y => 4 - (intOf y).toNat)
  case atStart => exact ⟨0, 0, rfl, rfl, by omega, by omega, Lib.hid (by simp [num])⟩
  case round =>
    obtain ⟨k, n, rfl, rfl, hk4, hnl, hn⟩ := hrel
    by_cases hlt : k < 4
    · have hil : 4 * i + k < r.length := by omega
      obtain ⟨c, hcc⟩ : ∃ c, r[4 * i + k] = c := ⟨_, rfl⟩
      have hcb := c.toNat_lt
      have hx : (r.drop (4 * i)).take (k + 1) = (r.drop (4 * i)).take k ++ [c] := by
        rw [List.take_succ_eq_append_getElem (by simp; omega), List.getElem_drop, hcc]
      have hn1 := Lib.hid (show num ((r.drop (4 * i)).take (k + 1)) = 256 * n + c.toNat by rw [hx, num_snoc, ← hn.out])
      have hn2 : 256 * n + c.toNat < 4294967296 := by
        rw [← hn1.out]
        have h1 := num_lt ((r.drop (4 * i)).take (k + 1))
        have h2 : ((r.drop (4 * i)).take (k + 1)).length ≤ 4 := by simp; omega
        have h3 : 256 ^ ((r.drop (4 * i)).take (k + 1)).length ≤ 256 ^ 4 := Nat.pow_le_pow_right (by decide) h2
        exact Nat.lt_of_lt_of_le h1 (Nat.le_trans h3 (by decide))
      have hor := or8 n c (by omega)
      clear hx
      go_wp2_with (first | (with_reducible refine wp_serial (by kernel_rfl) (by kernel_rfl) (by (repeat (first | (with_reducible apply NoBad.then) | (with_reducible apply NoBad.inBlock) | (with_reducible exact NoBad.rets))); done) ?_) | fail)
      go_round
      case rel => exact ⟨k + 1, 256 * n + c.toNat, by go_num, by go_num, by omega, hn2, Lib.hid (by rw [hn1.out])⟩
      case measure => simp [intOf]; omega
    · have : k = 4 := by omega
      subst this
      go_wp2_with (first | (with_reducible refine wp_serial (by kernel_rfl) (by kernel_rfl) (by (repeat (first | (with_reducible apply NoBad.then) | (with_reducible apply NoBad.inBlock) | (with_reducible exact NoBad.rets))); done) ?_) | fail)
      go_returns
      exact ⟨by rw [hn.out]; rfl, rfl⟩
theorem at_lit (n : Int) (r : Bs) (hr : r.length = 20) (i : Nat) (hn : n = (i : Int)) (hi : i < 5) (b : Nat) (w : World) (hc : w.cell? ⟨b, 0, none⟩ = some (.string ⟨r.toArray⟩)) : Calls Try.prog 77 #[.int .i64 n, .pointer (some ⟨b, 0, none⟩)] w (Rets fun v w' => v = .int .i64 (at4 r i) ∧ w = w') := by
  subst hn; exact at_w r hr i hi b w hc
end Go.Proofs.Ytdjleplefbmjbaa
