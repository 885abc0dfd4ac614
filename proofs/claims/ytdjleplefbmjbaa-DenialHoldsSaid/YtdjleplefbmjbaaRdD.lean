/-
  The first name of data; numbers.
-/
import Derived.Test.YtdjleplefbmjbaaRdC
namespace Go.Proofs.Ytdjleplefbmjbaa
open Go.RowKit
set_option linter.unusedSimpArgs false
set_option linter.unusedVariables false
/-- where the 0 stands that ends the name at the beginning -/
def fzF : Nat → Bs → Option Nat
  | _, [] => none
  | 0, _ :: _ => none
  | f + 1, k :: t => if k = 0 then some 0 else (fzF f (t.drop k.toNat)).map (· + (1 + k.toNat))
theorem fzF_more : ∀ (f : Nat) (s : Bs), s.length ≤ f → fzF f s = fzF s.length s
  | 0, s, h => by
    have : s = [] := List.eq_nil_of_length_eq_zero (by omega)
    subst this; rfl
  | f + 1, [], _ => rfl
  | f + 1, k :: t, h => by
    simp only [List.length_cons] at h
    simp only [fzF, List.length_cons]
    split
    · rfl
    · rw [fzF_more f (t.drop k.toNat) (by simp; omega), ← fzF_more t.length (t.drop k.toNat) (by simp)]
def fz (s : Bs) : Option Nat := fzF s.length s
theorem fz_nil : fz [] = none := rfl
theorem fz_cons (k : UInt8) (t : Bs) : fz (k :: t) = if k = 0 then some 0 else (fz (t.drop k.toNat)).map (· + (1 + k.toNat)) := by
  unfold fz
  simp only [List.length_cons, fzF]
  rw [fzF_more t.length _ (by simp)]
def firB (s : Bs) : Bool := match fz s with | none => false | some i => hostOk (s.take (i + 1))
def firN (s : Bs) : Bs := match fz s with | none => [] | some i => hostN (s.take (i + 1))
def firR (s : Bs) : Bs := match fz s with | none => [] | some i => s.drop (i + 1)
def firI (s : Bs) : Nat := match fz s with | none => 0 | some i => if hostOk (s.take (i + 1)) then i + 1 else 0
theorem u8_ne {k : UInt8} (h : k ≠ 0) : 1 ≤ k.toNat := by
  rcases Nat.eq_zero_or_pos k.toNat with h0 | h0
  · exact absurd (UInt8.toNat_inj.1 (by simpa using h0)) h
  · exact h0
set_option maxRecDepth 100000 in
theorem first_w (s : Bs) (hm : s.length ≤ 70000) (w : World) : Calls Try.prog 76 #[.string ⟨s.toArray⟩] w (Rets fun r w' => r = .tuple #[.string ⟨(firN s).toArray⟩, .string ⟨(firR s).toArray⟩, .bool (firB s)] ∧ Upd0 w w') := by
  go_enter Try.func76, Try.ntmps76
  go_wp2_with (first | (with_reducible refine wp_serial (by kernel_rfl) (by kernel_rfl) (by (repeat (first | (with_reducible apply NoBad.then) | (with_reducible apply NoBad.inBlock) | (with_reducible exact NoBad.rets))); done) ?_) | fail)
  go_loop [5] (fun x => ∃ i : Nat, x = .int .i64 i ∧ i ≤ s.length + 300 ∧ Hid (fz s = (fz (s.drop i)).map (· + i))) (fun x => s.length - (intOf x).toNat)
  case atStart => exact ⟨0, rfl, by omega, Lib.hid (by simp)⟩
  case round =>
    obtain ⟨i, rfl, hil, ht⟩ := hrel
    by_cases hlt : i < s.length
    · obtain ⟨k, t, hkt, hk, htl, hlen1, hlen2⟩ := drop_facts hlt
      have hkth := Lib.hid hkt
      have htlh := Lib.hid htl
      have hkb := k.toNat_lt
      clear hkt htl
      by_cases h0 : k = 0
      · subst h0
        have hf := Lib.hid (show fz s = some i by rw [ht.out, hkth.out, fz_cons]; simp)
        have htk : (s.take (i + 1)).length ≤ 70000 := by simp; omega
        go_wp2_with (first
          | (go_at_call 83; refine (hostof_w (s.take (i + 1)) htk _).use ?_; rintro v w2 ⟨rfl, hu2⟩)
          | (with_reducible refine wp_serial (by kernel_rfl) (by kernel_rfl) (by (repeat (first | (with_reducible apply NoBad.then) | (with_reducible apply NoBad.inBlock) | (with_reducible exact NoBad.rets))); done) ?_)
          | fail)
        go_returns
        exact ⟨by simp [firN, firR, firB, hf.out], (by (repeat (first | (with_reducible exact Upd.refl _ _) | (with_reducible assumption) | (with_reducible apply Upd.drew) | (with_reducible apply Upd.alloc) | (refine Upd0.tr ?_ (by with_reducible assumption)) | (refine Upd.setCell ?_ (fun h => absurd h (by first | exact Nat.lt_irrefl _ | (simp only []; omega))) _))); done)⟩
      · have h1 := u8_ne h0
        have hb : ((k.toNat : Int) == 0) = false := by rw [beq_eq_false_iff_ne]; omega
        have hb2 : ((k.toNat : Int) != 0) = true := by rw [bne_iff_ne]; omega
        have h0h := Lib.hid h0
        clear h0
        go_wp2_with (first | (with_reducible refine wp_serial (by kernel_rfl) (by kernel_rfl) (by (repeat (first | (with_reducible apply NoBad.then) | (with_reducible apply NoBad.inBlock) | (with_reducible exact NoBad.rets))); done) ?_) | fail)
        go_round
        case rel => exact ⟨i + (1 + k.toNat), by go_num, by omega, Lib.hid (by
          rw [ht.out, hkth.out, fz_cons, if_neg h0h.out, show i + (1 + k.toNat) = (i + 1) + k.toNat by omega, ← List.drop_drop, htlh.out]
          cases fz (t.drop k.toNat) <;> simp; omega)⟩
        case measure => simp [intOf]; omega
    · have hf := Lib.hid (show fz s = none by rw [ht.out, List.drop_of_length_le (by omega), fz_nil]; rfl)
      go_wp2_with (first | (with_reducible refine wp_serial (by kernel_rfl) (by kernel_rfl) (by (repeat (first | (with_reducible apply NoBad.then) | (with_reducible apply NoBad.inBlock) | (with_reducible exact NoBad.rets))); done) ?_) | fail)
      go_returns
      exact ⟨by simp [firN, firR, firB, hf.out], (by (repeat (first | (with_reducible exact Upd.refl _ _) | (with_reducible assumption) | (with_reducible apply Upd.drew) | (with_reducible apply Upd.alloc) | (refine Upd0.tr ?_ (by with_reducible assumption)) | (refine Upd.setCell ?_ (fun h => absurd h (by first | exact Nat.lt_irrefl _ | (simp only []; omega))) _))); done)⟩
theorem num_app (a b : Bs) : num (a ++ b) = b.foldl (fun n b => 256 * n + b.toNat) (num a) := by simp [num]
theorem num_snoc (a : Bs) (b : UInt8) : num (a ++ [b]) = 256 * num a + b.toNat := by simp [num]
theorem num_lt (a : Bs) : num a < 256 ^ a.length := by
  have : ∀ (n : Nat) (a : Bs), a.length = n → num a < 256 ^ n := by
    intro n
    induction n with
    | zero => intro a h; have : a = [] := List.eq_nil_of_length_eq_zero h; subst this; decide
    | succ n ih =>
      intro a h
      rcases snoc_or a with rfl | ⟨t, c, rfl⟩
      · simp at h
      · simp at h
        have h1 := ih t h
        have h2 := c.toNat_lt
        rw [num_snoc, Nat.pow_succ]; omega
  exact this a.length a rfl
/-- a number in so many bytes -/
def wid : Nat → Nat → Bs
  | 0, _ => []
  | k + 1, n => wid k (n / 256) ++ [UInt8.ofNat n]
theorem wid_len : ∀ (k n : Nat), (wid k n).length = k
  | 0, _ => rfl
  | k + 1, n => by simp [wid, wid_len k]
theorem wid4 (n : Nat) : wid 4 n = w4 n := by simp [wid, w4, Nat.div_div_eq_div_mul]
theorem br_of_owns {e : TypeId} {B n : Nat} {w : World} {v : Value} {l : Bs} (h : w.ownsRow B e 1 v n (byt l)) (hn : n = l.length) : BR e B w v l := by
  subst hn
  rcases h.2 with ⟨rfl, h0⟩ | ⟨g, cap, cur, rfl, h1, h2, h3, h4, h5, h6⟩
  · exact .inl ⟨by rw [], List.eq_nil_of_length_eq_zero h0⟩
  · exact .inr ⟨g, cap, cur, (0, 0), rfl, h1, h2, .inl (Nat.le_refl _), h3, h4, by simpa using h5, by simpa using h6⟩
theorem made_byt (n : Nat) : (madeCells (Value.int .u8 0).cells (n * 1)).toList = byt (List.replicate n 0) := by
  rw [Nat.mul_one]
  apply List.ext_getElem
  · simp [madeCells, byt]
  · intro i h1 h2
    have hc : (Value.int .u8 0).cells = #[.int .u8 0] := rfl
    simp [madeCells, byt, hc, Nat.mod_one]
end Go.Proofs.Ytdjleplefbmjbaa
