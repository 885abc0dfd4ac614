/-
  The program's writer: text, long, name.
-/
import Derived.Test.YtgdejgfmhndbhaaWrQ
import Derived.Test.YtgdejgfmhndbhaaRfM
namespace Go.Proofs.Ytgdejgfmhndbhaa
open Go.RowKit Go.Maps
set_option linter.unusedSimpArgs false
set_option linter.unusedVariables false
variable {B : Nat}
set_option maxRecDepth 100000 in
theorem text_i (t : Nat) (s : Wr) (v : Value) (mb nn : Nat) (D : DataW Unit) (l : Bs) (w : World) (hI : WrI B w t s v mb nn D) (hl : s.b.length ≤ 50000000) (hn : l.length ≤ 70000) :
    Calls Try.prog 55 #[.pointer (some ⟨t, 0, none⟩), .string ⟨l.toArray⟩] w (Rets fun r w' => r = .tuple #[] ∧ UpdW B w w' ∧ ∃ v', WrI B w' t (s.add l) v' mb nn D) := by
  obtain ⟨i0, hi, hz0, hz1, hz2⟩ := info_parts info_u8
  have hB : B ≤ w.heap.size := by have := blk_lt hI.blk; have := hI.lo.1; omega
  obtain ⟨ao, cap, rfl⟩ := hI.row.isSlice
  obtain ⟨c0, c1, c2⟩ := two_w hI.blk
  have hIh := Lib.hid hI
  have hlt := blk_lt hI.blk
  clear hI
  go_enter Try.func55, Try.ntmps55
  go_wp2_with (first
    | (at_builtin; refine wpList_appS rfl (.tmp 8) (.tmp 9) 38 9 rfl 5 i0 Try.underlying38 Try.underlying9 hi hz0 hz1 hz2 l rfl hIh.out.row hB rfl (by omega) ?_; intro ao' cap' w1 hb1 hu1 hf1; obtain ⟨x0, x1, x2⟩ := two_w (hu1.block (fun e => (hIh.out.ne).1 e) hIh.out.blk); have hb1h := Lib.hid hb1; have hf1h := Lib.hid hf1; have hu1h := Lib.hid hu1; clear hb1 hf1 hu1)
    | (with_reducible refine wp_serial (by kernel_rfl) (by kernel_rfl) (by repeat with_reducible (first | apply NoBad.then | apply NoBad.inBlock | apply NoBad.jump | exact NoBad.rets)) ?_)
    | fail)
  all_goals go_returns
  obtain ⟨z1, z2⟩ := hIh.out.put hu1h.out hb1h.out hf1h.out
  exact ⟨rfl, z2, _, z1⟩
theorem text_w (t : Nat) (s : Wr) (l : Bs) (w : World) (h : WrM B w t s) (hl : s.b.length ≤ 50000000) (hn : l.length ≤ 70000) :
    Calls Try.prog 55 #[.pointer (some ⟨t, 0, none⟩), .string ⟨l.toArray⟩] w (Rets fun r w' => r = .tuple #[] ∧ UpdW B w w' ∧ WrM B w' t (s.add l)) := by
  obtain ⟨hok, v, mb, nn, D, hI⟩ := h
  refine (text_i t s v mb nn D l w hI hl hn).use ?_
  rintro r w' ⟨rfl, hu, v', hI'⟩
  exact ⟨rfl, hu, hok.add _, v', mb, nn, D, hI'⟩
theorem wd2_long (n : Nat) : wd2 (n / 65536) ++ wd2 n = w4 n := by
  simp only [wd2, w4, List.cons_append, List.nil_append, Nat.div_div_eq_div_mul]
set_option maxRecDepth 100000 in
theorem long_wr (t : Nat) (s : Wr) (n : Nat) (w : World) (h : WrM B w t s) (hl : s.b.length ≤ 49000000) (hn : n < 4294967296) :
    Calls Try.prog 34 #[.pointer (some ⟨t, 0, none⟩), .int .i64 n] w (Rets fun r w' => r = .tuple #[] ∧ UpdW B w w' ∧ WrM B w' t (s.add (w4 n))) := by
  have hh := Lib.hid h
  clear h
  have h1 := Lib.hid (word_w t s (n / 65536) w hh.out (by omega) (by omega))
  rw [show ((n / 65536 : Nat) : Int) = (n : Int) / 65536 by omega] at h1
  have tk : True := trivial
  go_enter Try.func34, Try.ntmps34
  go_wp2_with (first
    | (go_at_call 31; have _t := tk; (with_reducible refine (h1.out).use ?_); rintro v w1 ⟨rfl, hu1, hc1⟩; have k1 := Lib.hid hc1; clear hc1 tk _t)
    | (go_at_call 31; (with_reducible refine (word_w t _ n _ k1.out (by simp [Wr.add, wd2]; omega) hn).use ?_); rintro v w2 ⟨rfl, hu2, hc2⟩; have k2 := Lib.hid hc2; clear hc2)
    | (with_reducible refine wp_serial (by kernel_rfl) (by kernel_rfl) (by repeat with_reducible (first | apply NoBad.then | apply NoBad.inBlock | apply NoBad.jump | exact NoBad.rets)) ?_)
    | fail)
  all_goals go_returns
  have e : (s.add (wd2 (n / 65536))).add (wd2 n) = s.add (w4 n) := by simp [Wr.add, wd2_long]
  rw [e] at k2
  exact ⟨rfl, hu1.tr hu2, k2.out⟩
end Go.Proofs.Ytgdejgfmhndbhaa
