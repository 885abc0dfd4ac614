/-
  The first name of data; numbers.
-/
import Derived.Test.YtebnilkcpklnmaaRdC
namespace Go.Proofs.Ytebnilkcpklnmaa
open Go.RowKit
set_option linter.unusedSimpArgs false
set_option linter.unusedVariables false
/-- where the 0 stands that ends the name at the beginning -/
def fzF : Nat → Bs → Option Nat
  | _, [] => none
  | 0, _ :: _ => none
  | f + 1, k :: t => if k = 0 then some 0 else (fzF f (t.drop k.toNat)).map (· + (1 + k.toNat))
theorem fzF_more : ∀ (f : Nat) (s : Bs), s.length ≤ f → fzF f s = fzF s.length s
  | 0, s, h => by
    have : s = [] := List.eq_nil_of_length_eq_zero (by omega)
    subst this; rfl
  | f + 1, [], _ => rfl
  | f + 1, k :: t, h => by
    simp only [List.length_cons] at h
    simp only [fzF, List.length_cons]
    split
    · rfl
    · rw [fzF_more f (t.drop k.toNat) (by simp; omega), ← fzF_more t.length (t.drop k.toNat) (by simp)]
def fz (s : Bs) : Option Nat := fzF s.length s
theorem fz_nil : fz [] = none := rfl
theorem fz_cons (k : UInt8) (t : Bs) : fz (k :: t) = if k = 0 then some 0 else (fz (t.drop k.toNat)).map (· + (1 + k.toNat)) := by
  unfold fz
  simp only [List.length_cons, fzF]
  rw [fzF_more t.length _ (by simp)]
def firB (s : Bs) : Bool := match fz s with | none => false | some i => hostOk (s.take (i + 1))
def firN (s : Bs) : Bs := match fz s with | none => [] | some i => hostN (s.take (i + 1))
def firR (s : Bs) : Bs := match fz s with | none => [] | some i => s.drop (i + 1)
def firI (s : Bs) : Nat := match fz s with | none => 0 | some i => if hostOk (s.take (i + 1)) then i + 1 else 0
theorem u8_ne {k : UInt8} (h : k ≠ 0) : 1 ≤ k.toNat := by
  rcases Nat.eq_zero_or_pos k.toNat with h0 | h0
  · exact absurd (UInt8.toNat_inj.1 (by simpa using h0)) h
  · exact h0
set_option maxRecDepth 100000 in
theorem first_w (s : Bs) (hm : s.length ≤ 70000) (w : World) : Calls Try.prog 50 #[.string ⟨s.toArray⟩] w (Rets fun r w' => r = .tuple #[.string ⟨(firN s).toArray⟩, .string ⟨(firR s).toArray⟩, .bool (firB s)] ∧ Upd0 w w') := by
  go_enter Try.func50, Try.ntmps50
  go_wp2_with (first | (with_reducible refine wp_serial (by kernel_rfl) (by kernel_rfl) (by (repeat (first | (with_reducible apply NoBad.then) | (with_reducible apply NoBad.inBlock) | (with_reducible exact NoBad.rets))); done) ?_) | fail)
  go_loop [5] (fun x => ∃ i : Nat, x = .int .i64 i ∧ i ≤ s.length + 300 ∧ Hid (fz s = (fz (s.drop i)).map (· + i))) (fun x => s.length - (intOf x).toNat)
  case atStart => exact ⟨0, rfl, by omega, Lib.hid (by simp)⟩
  case round =>
    obtain ⟨i, rfl, hil, ht⟩ := hrel
    by_cases hlt : i < s.length
    · obtain ⟨k, t, hkt, hk, htl, hlen1, hlen2⟩ := drop_facts hlt
      have hkth := Lib.hid hkt
      have htlh := Lib.hid htl
      have hkb := k.toNat_lt
      clear hkt htl
      by_cases h0 : k = 0
      · subst h0
        have hf := Lib.hid (show fz s = some i by rw [ht.out, hkth.out, fz_cons]; simp)
        have htk : (s.take (i + 1)).length ≤ 70000 := by simp; omega
        go_wp2_with (first
          | (go_at_call 55; refine (hostof_w (s.take (i + 1)) htk _).use ?_; rintro v w2 ⟨rfl, hu2⟩)
          | (with_reducible refine wp_serial (by kernel_rfl) (by kernel_rfl) (by (repeat (first | (with_reducible apply NoBad.then) | (with_reducible apply NoBad.inBlock) | (with_reducible exact NoBad.rets))); done) ?_)
          | fail)
        go_returns
        exact ⟨by simp [firN, firR, firB, hf.out], (by (repeat (first | (with_reducible exact Upd.refl _ _) | (with_reducible assumption) | (with_reducible apply Upd.drew) | (with_reducible apply Upd.alloc) | (refine Upd0.tr ?_ (by with_reducible assumption)) | (refine Upd.setCell ?_ (fun h => absurd h (by first | exact Nat.lt_irrefl _ | (simp only []; omega))) _))); done)⟩
      · have h1 := u8_ne h0
        have hb : ((k.toNat : Int) == 0) = false := by rw [beq_eq_false_iff_ne]; omega
        have hb2 : ((k.toNat : Int) != 0) = true := by rw [bne_iff_ne]; omega
        have h0h := Lib.hid h0
        clear h0
        go_wp2_with (first | (with_reducible refine wp_serial (by kernel_rfl) (by kernel_rfl) (by (repeat (first | (with_reducible apply NoBad.then) | (with_reducible apply NoBad.inBlock) | (with_reducible exact NoBad.rets))); done) ?_) | fail)
        go_round
        case rel => exact ⟨i + (1 + k.toNat), by go_num, by omega, Lib.hid (by
          rw [ht.out, hkth.out, fz_cons, if_neg h0h.out, show i + (1 + k.toNat) = (i + 1) + k.toNat by omega, ← List.drop_drop, htlh.out]
          cases fz (t.drop k.toNat) <;> simp; omega)⟩
        case measure => simp [intOf]; omega
    · have hf := Lib.hid (show fz s = none by rw [ht.out, List.drop_of_length_le (by omega), fz_nil]; rfl)
      go_wp2_with (first | (with_reducible refine wp_serial (by kernel_rfl) (by kernel_rfl) (by (repeat (first | (with_reducible apply NoBad.then) | (with_reducible apply NoBad.inBlock) | (with_reducible exact NoBad.rets))); done) ?_) | fail)
      go_returns
      exact ⟨by simp [firN, firR, firB, hf.out], (by (repeat (first | (with_reducible exact Upd.refl _ _) | (with_reducible assumption) | (with_reducible apply Upd.drew) | (with_reducible apply Upd.alloc) | (refine Upd0.tr ?_ (by with_reducible assumption)) | (refine Upd.setCell ?_ (fun h => absurd h (by first | exact Nat.lt_irrefl _ | (simp only []; omega))) _))); done)⟩
set_option maxRecDepth 100000 in
theorem rfirst_w (s : Bs) (hm : s.length ≤ 70000) (w : World) : Calls Try.prog 52 #[.string ⟨s.toArray⟩] w (Rets fun r w' => r = .int .i64 (firI s) ∧ Upd0 w w') := by
  go_enter Try.func52, Try.ntmps52
  go_wp2_with (first | (with_reducible refine wp_serial (by kernel_rfl) (by kernel_rfl) (by (repeat (first | (with_reducible apply NoBad.then) | (with_reducible apply NoBad.inBlock) | (with_reducible exact NoBad.rets))); done) ?_) | fail)
  go_loop [3] (fun x => ∃ i : Nat, x = .int .i64 i ∧ i ≤ s.length + 300 ∧ Hid (fz s = (fz (s.drop i)).map (· + i))) (fun x => s.length - (intOf x).toNat)
  case atStart => exact ⟨0, rfl, by omega, Lib.hid (by simp)⟩
  case round =>
    obtain ⟨i, rfl, hil, ht⟩ := hrel
    by_cases hlt : i < s.length
    · obtain ⟨k, t, hkt, hk, htl, hlen1, hlen2⟩ := drop_facts hlt
      have hkth := Lib.hid hkt
      have htlh := Lib.hid htl
      have hkb := k.toNat_lt
      clear hkt htl
      by_cases h0 : k = 0
      · subst h0
        have hf := Lib.hid (show fz s = some i by rw [ht.out, hkth.out, fz_cons]; simp)
        have htk : (s.take (i + 1)).length ≤ 70000 := by simp; omega
        cases hok : hostOk (s.take (i + 1))
        all_goals
          have hokh := Lib.hid hok
          clear hok
          go_wp2_with (first
            | (go_at_call 57; refine (isHost_w (s.take (i + 1)) htk _).use ?_; rintro v w2 ⟨rfl, hu2⟩; rw [hokh.out])
            | (with_reducible refine wp_serial (by kernel_rfl) (by kernel_rfl) (by (repeat (first | (with_reducible apply NoBad.then) | (with_reducible apply NoBad.inBlock) | (with_reducible exact NoBad.rets))); done) ?_)
            | fail)
          go_returns
          exact ⟨by simp [firI, hf.out, hokh.out], (by (repeat (first | (with_reducible exact Upd.refl _ _) | (with_reducible assumption) | (with_reducible apply Upd.drew) | (with_reducible apply Upd.alloc) | (refine Upd0.tr ?_ (by with_reducible assumption)) | (refine Upd.setCell ?_ (fun h => absurd h (by first | exact Nat.lt_irrefl _ | (simp only []; omega))) _))); done)⟩
      · have h1 := u8_ne h0
        have hb : ((k.toNat : Int) == 0) = false := by rw [beq_eq_false_iff_ne]; omega
        have h0h := Lib.hid h0
        clear h0
        go_wp2_with (first | (with_reducible refine wp_serial (by kernel_rfl) (by kernel_rfl) (by (repeat (first | (with_reducible apply NoBad.then) | (with_reducible apply NoBad.inBlock) | (with_reducible exact NoBad.rets))); done) ?_) | fail)
        go_round
        case rel => exact ⟨i + 1 + k.toNat, by go_num, by omega, Lib.hid (by
          rw [ht.out, hkth.out, fz_cons, if_neg h0h.out, ← List.drop_drop, htlh.out]
          cases fz (t.drop k.toNat) <;> simp; omega)⟩
        case measure => simp [intOf]; omega
    · have hf := Lib.hid (show fz s = none by rw [ht.out, List.drop_of_length_le (by omega), fz_nil]; rfl)
      go_wp2_with (first | (with_reducible refine wp_serial (by kernel_rfl) (by kernel_rfl) (by (repeat (first | (with_reducible apply NoBad.then) | (with_reducible apply NoBad.inBlock) | (with_reducible exact NoBad.rets))); done) ?_) | fail)
      go_returns
      exact ⟨by simp [firI, hf.out], (by (repeat (first | (with_reducible exact Upd.refl _ _) | (with_reducible assumption) | (with_reducible apply Upd.drew) | (with_reducible apply Upd.alloc) | (refine Upd0.tr ?_ (by with_reducible assumption)) | (refine Upd.setCell ?_ (fun h => absurd h (by first | exact Nat.lt_irrefl _ | (simp only []; omega))) _))); done)⟩
theorem num_app (a b : Bs) : num (a ++ b) = b.foldl (fun n b => 256 * n + b.toNat) (num a) := by simp [num]
theorem num_snoc (a : Bs) (b : UInt8) : num (a ++ [b]) = 256 * num a + b.toNat := by simp [num]
theorem num_lt (a : Bs) : num a < 256 ^ a.length := by
  have : ∀ (n : Nat) (a : Bs), a.length = n → num a < 256 ^ n := by
    intro n
    induction n with
    | zero => intro a h; have : a = [] := List.eq_nil_of_length_eq_zero h; subst this; decide
    | succ n ih =>
      intro a h
      rcases snoc_or a with rfl | ⟨t, c, rfl⟩
      · simp at h
      · simp at h
        have h1 := ih t h
        have h2 := c.toNat_lt
        rw [num_snoc, Nat.pow_succ]; omega
  exact this a.length a rfl
set_option maxRecDepth 100000 in
theorem number_w (s : Bs) (hm : s.length ≤ 4) (w : World) : Calls Try.prog 53 #[.string ⟨s.toArray⟩] w (Rets fun r w' => r = .int .i64 (num s) ∧ Upd0 w w') := by
  go_enter Try.func53, Try.ntmps53
  go_wp2_with (first | (with_reducible refine wp_serial (by kernel_rfl) (by kernel_rfl) (by (repeat (first | (with_reducible apply NoBad.then) | (with_reducible apply NoBad.inBlock) | (with_reducible exact NoBad.rets))); done) ?_) | fail)
  go_loop [3, 4] (fun x y => ∃ i n : Nat, y = .int .i64 i ∧ x = .int .i64 n ∧ i ≤ s.length ∧ n < 4294967296 ∧ Hid (n = num (s.take i))) (fun _ y => s.length - (intOf y).toNat)
  case atStart => exact ⟨0, 0, rfl, rfl, by omega, by omega, Lib.hid (by simp [num])⟩
  case round =>
    obtain ⟨i, n, rfl, rfl, hil, hnl, hn⟩ := hrel
    by_cases hlt : i < s.length
    · obtain ⟨k, t, hkt, hk, htl, hlen1, hlen2⟩ := drop_facts hlt
      have hkb := k.toNat_lt
      have hn1 := Lib.hid (show num (s.take (i + 1)) = 256 * n + k.toNat by
        rw [List.take_succ_eq_append_getElem hlt, num_snoc, hk, hn.out])
      have hn2 : 256 * n + k.toNat < 4294967296 := by
        rw [← hn1.out]
        have h1 := num_lt (s.take (i + 1))
        have h2 : (s.take (i + 1)).length ≤ 4 := by simp; omega
        have h3 : 256 ^ (s.take (i + 1)).length ≤ 256 ^ 4 := Nat.pow_le_pow_right (by decide) h2
        exact Nat.lt_of_lt_of_le h1 (Nat.le_trans h3 (by decide))
      clear hkt htl
      go_wp2_with (first | (with_reducible refine wp_serial (by kernel_rfl) (by kernel_rfl) (by (repeat (first | (with_reducible apply NoBad.then) | (with_reducible apply NoBad.inBlock) | (with_reducible exact NoBad.rets))); done) ?_) | fail)
      go_round
      case rel => exact ⟨i + 1, 256 * n + k.toNat, by go_num, by go_num, by omega, hn2, Lib.hid (by rw [hn1.out])⟩
      case measure => simp [intOf]; omega
    · go_wp2_with (first | (with_reducible refine wp_serial (by kernel_rfl) (by kernel_rfl) (by (repeat (first | (with_reducible apply NoBad.then) | (with_reducible apply NoBad.inBlock) | (with_reducible exact NoBad.rets))); done) ?_) | fail)
      go_returns
      exact ⟨by rw [hn.out, List.take_of_length_le (by omega)]; rfl, Upd.refl _ _⟩
/-- a number in so many bytes -/
def wid : Nat → Nat → Bs
  | 0, _ => []
  | k + 1, n => wid k (n / 256) ++ [UInt8.ofNat n]
theorem wid_len : ∀ (k n : Nat), (wid k n).length = k
  | 0, _ => rfl
  | k + 1, n => by simp [wid, wid_len k]
theorem wid4 (n : Nat) : wid 4 n = w4 n := by simp [wid, w4, Nat.div_div_eq_div_mul]
theorem br_of_owns {e : TypeId} {B n : Nat} {w : World} {v : Value} {l : Bs} (h : w.ownsRow B e 1 v n (byt l)) (hn : n = l.length) : BR e B w v l := by
  subst hn
  rcases h.2 with ⟨rfl, h0⟩ | ⟨g, cap, cur, rfl, h1, h2, h3, h4, h5, h6⟩
  · exact .inl ⟨by rw [], List.eq_nil_of_length_eq_zero h0⟩
  · exact .inr ⟨g, cap, cur, (0, 0), rfl, h1, h2, .inl (Nat.le_refl _), h3, h4, by simpa using h5, by simpa using h6⟩
theorem made_byt (n : Nat) : (madeCells (Value.int .u8 0).cells (n * 1)).toList = byt (List.replicate n 0) := by
  rw [Nat.mul_one]
  apply List.ext_getElem
  · simp [madeCells, byt]
  · intro i h1 h2
    have hc : (Value.int .u8 0).cells = #[.int .u8 0] := rfl
    simp [madeCells, byt, hc, Nat.mod_one]
set_option maxRecDepth 100000 in
theorem wide_w (k : Nat) (hk : k ≤ 8) (n : Nat) (hn : n < 9223372036854775808) (w : World) : Calls Try.prog 49 #[.int .i64 n, .int .i64 k] w (Rets fun r w' => r = .string ⟨(wid k n).toArray⟩ ∧ Upd0 w w') := by
  obtain ⟨i0, hi, hz0, hz1, hz2⟩ := info_parts info_u8
  go_enter Try.func49, Try.ntmps49
  go_wp2_with (first
    | (refine wpList_make_full w rfl (.tmp 7) (.tmp 7) 95 rfl w.heap.size 5 i0 (.int .u8 0) 1 Try.underlying95 hi hz0 hz1 .i64 .i64 (k : Int) (k : Int) k rfl rfl rfl rfl (by rw [hz2]; omega) (by unfold maxLen; omega) (Nat.le_refl _) ?_; intro w1 h1 hg1; have hu1 : Upd0 w w1 := ⟨hg1.os, hg1.tape, hg1.output, hg1.size, fun b hb _ => hg1.block b hb (by simp)⟩; rw [made_byt] at h1; have hb1 := Lib.hid (br_of_owns h1 (by simp)); clear h1 hg1)
    | (with_reducible refine wp_serial (by kernel_rfl) (by kernel_rfl) (by (repeat (first | (with_reducible apply NoBad.then) | (with_reducible apply NoBad.inBlock) | (with_reducible exact NoBad.rets))); done) ?_) | fail)
  go_loopw [0, 6] (fun x y wr => ∃ (m x' : Nat) (tail : Bs), x = .int .i64 x' ∧ y = .int .i64 ((m : Int) - 1) ∧ m ≤ k ∧ x' < 9223372036854775808 ∧ Hid (m + tail.length = k) ∧ Hid (wid k n = wid m x' ++ tail) ∧ Upd0 w wr ∧ Hid (BR 5 w.heap.size wr (.slice (some ⟨w.heap.size, 0, none⟩) k k) (List.replicate m 0 ++ tail))) (fun _ y _ => (intOf y + 1).toNat)
  case atStart => exact ⟨k, n, [], rfl, rfl, Nat.le_refl _, hn, Lib.hid (by simp), Lib.hid (by simp), hu1, Lib.hid (by simpa using hb1.out)⟩
  case round =>
    obtain ⟨m, x, tail, rfl, rfl, hmk, hx, hl, hw, hu, hb⟩ := hrel
    cases m with
    | zero =>
      go_wp2_with (first
        | (refine wpList_ofB rfl (.tmp 23) 95 9 rfl 5 Try.underlying95 Try.underlying5 Try.underlying9 rfl hb.out ?_)
        | (with_reducible refine wp_serial (by kernel_rfl) (by kernel_rfl) (by (repeat (first | (with_reducible apply NoBad.then) | (with_reducible apply NoBad.inBlock) | (with_reducible exact NoBad.rets))); done) ?_) | fail)
      go_returns
      exact ⟨by rw [hw.out]; rfl, hu⟩
    | succ m =>
      have hc := hb.out.cell (i := m) (by simp; omega)
      have hf := hb.out.frz (i := m) (by simp; omega)
      have hcs : Value.int .u8 ((x : Int) % 256) = .int .u8 (UInt8.ofNat x).toNat := by simp [UInt8.toNat_ofNat']
      have hcsh := Lib.hid hcs
      clear hcs
      go_wp2_with (first | (with_reducible refine wp_serial (by kernel_rfl) (by kernel_rfl) (by (repeat (first | (with_reducible apply NoBad.then) | (with_reducible apply NoBad.inBlock) | (with_reducible exact NoBad.rets))); done) ?_) | fail)
      rw [hcsh.out]
      go_roundw
      case rel => exact ⟨m, x / 256, UInt8.ofNat x :: tail, by go_num, rfl, by omega, by omega, Lib.hid (by have := hl.out; simp; omega), Lib.hid (by rw [hw.out, wid]; simp),
        (hu.setCell (fun h => absurd h (by simp)) _), Lib.hid (by
          have h2 := hb.out.setAt (i := m) (UInt8.ofNat x)
          have h3 : (List.replicate (m + 1) 0 ++ tail).set m (UInt8.ofNat x) = List.replicate m 0 ++ UInt8.ofNat x :: tail := by
            rw [List.replicate_succ', List.append_assoc, List.set_append_right _ _ (by simp)]
            simp
          rw [h3] at h2; exact h2)⟩
      case measure => simp [intOf]
end Go.Proofs.Ytebnilkcpklnmaa
