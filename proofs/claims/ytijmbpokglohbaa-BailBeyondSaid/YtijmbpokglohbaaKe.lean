/-
  Texts and lists of texts compared: cmp.Compare, slices.Compare, slices.Equal.
  Lists of texts: slices.Compare, slices.Equal, slices.Reverse.
  A name's labels from the last one on; under which names it is; how two are ordered.
  A name's labels, lists of texts, a name without its first label: the program's, the document's.
  Slices that are owned and may begin within their block: append, cells, parts.
  The document's Under.
-/
import Derived.Test.YtijmbpokglohbaaKd
import Derived.Test.YtijmbpokglohbaaKa
import Derived.Test.YtijmbpokglohbaaKb
namespace Go.Proofs.Ytijmbpokglohbaa
open Go.RowKit
set_option linter.unusedSimpArgs false
set_option linter.unusedVariables false
theorem ba_loop (bs : ByteArray) : ∀ (n i : Nat) (r : List UInt8), bs.size - i = n → ByteArray.toList.loop bs i r = r.reverse ++ bs.data.toList.drop i := by
  intro n
  induction n with
  | zero =>
    intro i r h
    rw [ByteArray.toList.loop]
    have h' : ¬ i < bs.size := by omega
    rw [if_neg h', List.drop_of_length_le (by simp only [Array.length_toList]; show bs.size ≤ i; omega)]; simp
  | succ n ih =>
    intro i r h
    rw [ByteArray.toList.loop]
    have h' : i < bs.size := by omega
    have h2 : i < bs.data.toList.length := by simp only [Array.length_toList]; exact h'
    rw [if_pos h', ih (i + 1) _ (by omega), List.drop_eq_getElem_cons h2]
    have e : bs.get! i = bs.data.toList[i] := by
      show bs.data[i]! = _
      rw [getElem!_pos bs.data i (by simpa using h2)]; simp
    rw [e]; simp
theorem ba_toList (l : Bs) : (⟨l.toArray⟩ : ByteArray).toList = l := by
  rw [ByteArray.toList, ba_loop _ _ 0 [] rfl]; simp
attribute [go_sem] ba_toList
theorem cmpS_facts (a b : Bs) : (Op.bytesLess a b = true ∧ cmpS a b = -1) ∨ (a = b ∧ cmpS a b = 0 ∧ Op.bytesLess a b = false) ∨ (Op.bytesLess a b = false ∧ (a == b) = false ∧ cmpS a b = 1) := by
  have h1 := less_cmp a b
  have h2 := less_cmp b a
  have hn := cmpS_ok.neg a b
  rcases cmpS_ok.one a b with h | h | h
  · left; rw [h1, h]; exact ⟨rfl, rfl⟩
  · right; left
    refine ⟨(cmpS_ok.zero a b).1 h, h, ?_⟩
    rw [h1, h]; rfl
  · right; right
    refine ⟨by rw [h1, h]; rfl, ?_, h⟩
    rw [beq_eq_false_iff_ne]
    rintro rfl
    rw [cmpS_ok.refl] at h; cases h
set_option maxRecDepth 100000 in
theorem isNaN_string (a : Bs) (w : World) : Calls Try.prog 128 #[.string ⟨a.toArray⟩] w (Rets fun r w' => r = .bool false ∧ Upd0 w w') := by
  go_enter Try.func128, Try.ntmps128
  go_wp2_with (first | (with_reducible refine wp_serial (by kernel_rfl) (by kernel_rfl) (by repeat with_reducible (first | apply NoBad.then | apply NoBad.inBlock | apply NoBad.jump | exact NoBad.rets)) ?_) | fail)
  all_goals go_returns
  all_goals exact ⟨rfl, (by repeat first | with_reducible (first | exact Upd.refl _ _ | assumption | apply Upd.drew | apply Upd.alloc) | refine Upd0.tr ?_ (by with_reducible assumption) | refine Upd.setCell ?_ (fun h => absurd h (by first | exact Nat.lt_irrefl _ | (simp only []; omega))) _)⟩
set_option maxRecDepth 100000 in
theorem cmp_string (a b : Bs) (w : World) : Calls Try.prog 121 #[.string ⟨a.toArray⟩, .string ⟨b.toArray⟩] w (Rets fun r w' => r = .int .i64 (cmpS a b) ∧ Upd0 w w') := by
  rcases cmpS_facts a b with ⟨h1, hc⟩ | ⟨rfl, hc, h1⟩ | ⟨h1, h2, hc⟩
  all_goals
    have hch := Lib.hid hc
    clear hc
    go_enter Try.func121, Try.ntmps121
    go_wp2_with (first
      | (go_at_call 128; (with_reducible refine (isNaN_string _ _).use ?_); rintro v w1 ⟨rfl, hu1⟩)
      | (with_reducible refine wp_serial (by kernel_rfl) (by kernel_rfl) (by repeat with_reducible (first | apply NoBad.then | apply NoBad.inBlock | apply NoBad.jump | exact NoBad.rets)) ?_) | fail)
    all_goals go_returns
    all_goals exact ⟨by rw [hch.out]; rfl, (by repeat first | with_reducible (first | exact Upd.refl _ _ | assumption | apply Upd.drew | apply Upd.alloc) | refine Upd0.tr ?_ (by with_reducible assumption) | refine Upd.setCell ?_ (fun h => absurd h (by first | exact Nat.lt_irrefl _ | (simp only []; omega))) _)⟩
set_option maxRecDepth 100000 in
theorem isNaN_name (a : Bs) (w : World) : Calls Try.prog 120 #[.string ⟨a.toArray⟩] w (Rets fun r w' => r = .bool false ∧ Upd0 w w') := by
  go_enter Try.func120, Try.ntmps120
  go_wp2_with (first | (with_reducible refine wp_serial (by kernel_rfl) (by kernel_rfl) (by repeat with_reducible (first | apply NoBad.then | apply NoBad.inBlock | apply NoBad.jump | exact NoBad.rets)) ?_) | fail)
  all_goals go_returns
  all_goals exact ⟨rfl, (by repeat first | with_reducible (first | exact Upd.refl _ _ | assumption | apply Upd.drew | apply Upd.alloc) | refine Upd0.tr ?_ (by with_reducible assumption) | refine Upd.setCell ?_ (fun h => absurd h (by first | exact Nat.lt_irrefl _ | (simp only []; omega))) _)⟩
set_option maxRecDepth 100000 in
theorem cmp_name (a b : Bs) (w : World) : Calls Try.prog 107 #[.string ⟨a.toArray⟩, .string ⟨b.toArray⟩] w (Rets fun r w' => r = .int .i64 (cmpS a b) ∧ Upd0 w w') := by
  rcases cmpS_facts a b with ⟨h1, hc⟩ | ⟨rfl, hc, h1⟩ | ⟨h1, h2, hc⟩
  all_goals
    have hch := Lib.hid hc
    clear hc
    go_enter Try.func107, Try.ntmps107
    go_wp2_with (first
      | (go_at_call 120; (with_reducible refine (isNaN_name _ _).use ?_); rintro v w1 ⟨rfl, hu1⟩)
      | (with_reducible refine wp_serial (by kernel_rfl) (by kernel_rfl) (by repeat with_reducible (first | apply NoBad.then | apply NoBad.inBlock | apply NoBad.jump | exact NoBad.rets)) ?_) | fail)
    all_goals go_returns
    all_goals exact ⟨by rw [hch.out]; rfl, (by repeat first | with_reducible (first | exact Upd.refl _ _ | assumption | apply Upd.drew | apply Upd.alloc) | refine Upd0.tr ?_ (by with_reducible assumption) | refine Upd.setCell ?_ (fun h => absurd h (by first | exact Nat.lt_irrefl _ | (simp only []; omega))) _)⟩
end Go.Proofs.Ytijmbpokglohbaa

namespace Go.Proofs.Ytijmbpokglohbaa
open Go.RowKit
set_option linter.unusedSimpArgs false
set_option linter.unusedVariables false
theorem drop_at {α : Type} {L : List α} {k : Nat} {x : α} (h : L[k]? = some x) : L.drop k = x :: L.drop (k + 1) := by
  have hk := (List.getElem?_eq_some_iff.1 h).1
  rw [List.drop_eq_getElem_cons hk, (List.getElem?_eq_some_iff.1 h).2]
set_option maxRecDepth 100000 in
theorem scmp_w (ao bo : Option Addr) (ca cb : Nat) (L M : List Bs) (w : World) (hL : SR w ao L) (hM : SR w bo M) (h1 : L.length ≤ 1000000) (h2 : M.length ≤ 1000000) :
    Calls Try.prog 108 #[.slice ao L.length ca, .slice bo M.length cb] w (Rets fun r w' => r = .int .i64 (lexC cmpS L M) ∧ Upd0 w w') := by
  go_enter Try.func108, Try.ntmps108
  go_wp2_with (first | (with_reducible refine wp_serial (by kernel_rfl) (by kernel_rfl) (by repeat with_reducible (first | apply NoBad.then | apply NoBad.inBlock | apply NoBad.jump | exact NoBad.rets)) ?_) | fail)
  go_loopw [11] (fun i wr => ∃ k : Nat, k ≤ L.length ∧ i = .int .i64 k ∧ Upd0 w wr ∧ Hid (lexC cmpS L M = lexC cmpS (L.drop k) (M.drop k))) (fun i _ => L.length - (intOf i).toNat)
  case atStart => exact ⟨0, Nat.zero_le _, rfl, Upd.refl _ _, Lib.hid rfl⟩
  case round =>
    obtain ⟨k, hk, rfl, hu, hl⟩ := hrel
    by_cases hlt : k < L.length
    · obtain ⟨g, o, rfl, hg, hcs⟩ := (hL.up hu).some hlt
      obtain ⟨x, hx⟩ : ∃ x, L[k]? = some x := ⟨L[k], List.getElem?_eq_getElem hlt⟩
      have hc := hcs k x hx
      clear hcs
      by_cases hlm : k < M.length
      · obtain ⟨g2, o2, rfl, hg2, hcs2⟩ := (hM.up hu).some hlm
        obtain ⟨y, hy⟩ : ∃ y, M[k]? = some y := ⟨M[k], List.getElem?_eq_getElem hlm⟩
        have hc2 := hcs2 k y hy
        clear hcs2
        have hst := Lib.hid (show lexC cmpS L M = if cmpS x y = 0 then lexC cmpS (L.drop (k + 1)) (M.drop (k + 1)) else cmpS x y by rw [hl.out, drop_at hx, drop_at hy]; rfl)
        clear hx hy
        by_cases h0 : cmpS x y = 0
        · have h0h := Lib.hid h0
          clear h0
          go_wp2_with (first
            | (go_at_call 121; (with_reducible refine (cmp_string _ _ _).use ?_); rintro v w2 ⟨rfl, hu2⟩; rw [h0h.out])
            | (with_reducible refine wp_serial (by kernel_rfl) (by kernel_rfl) (by repeat with_reducible (first | apply NoBad.then | apply NoBad.inBlock | apply NoBad.jump | exact NoBad.rets)) ?_) | fail)
          go_roundw
          case rel => exact ⟨k + 1, by omega, by go_num, (by repeat first | with_reducible (first | exact Upd.refl _ _ | assumption | apply Upd.drew | apply Upd.alloc) | refine Upd0.tr ?_ (by with_reducible assumption) | refine Upd.setCell ?_ (fun h => absurd h (by first | exact Nat.lt_irrefl _ | (simp only []; omega))) _), Lib.hid (by rw [hst.out, if_pos h0h.out])⟩
          case measure => simp [intOf]; omega
        · have hne : (cmpS x y != 0) = true := by simpa using h0
          have h0h := Lib.hid h0
          clear h0
          go_wp2_with (first
            | (go_at_call 121; (with_reducible refine (cmp_string _ _ _).use ?_); rintro v w2 ⟨rfl, hu2⟩)
            | (with_reducible refine wp_serial (by kernel_rfl) (by kernel_rfl) (by repeat with_reducible (first | apply NoBad.then | apply NoBad.inBlock | apply NoBad.jump | exact NoBad.rets)) ?_) | fail)
          all_goals go_returns
          all_goals exact ⟨by rw [hst.out, if_neg h0h.out]; rfl, (by repeat first | with_reducible (first | exact Upd.refl _ _ | assumption | apply Upd.drew | apply Upd.alloc) | refine Upd0.tr ?_ (by with_reducible assumption) | refine Upd.setCell ?_ (fun h => absurd h (by first | exact Nat.lt_irrefl _ | (simp only []; omega))) _)⟩
      · have hst := Lib.hid (show lexC cmpS L M = 1 by rw [hl.out, drop_at hx, show M.drop k = [] from List.drop_of_length_le (by omega)]; rfl)
        clear hx
        go_wp2_with (first | (with_reducible refine wp_serial (by kernel_rfl) (by kernel_rfl) (by repeat with_reducible (first | apply NoBad.then | apply NoBad.inBlock | apply NoBad.jump | exact NoBad.rets)) ?_) | fail)
        all_goals go_returns
        all_goals exact ⟨by rw [hst.out]; rfl, (by repeat first | with_reducible (first | exact Upd.refl _ _ | assumption | apply Upd.drew | apply Upd.alloc) | refine Upd0.tr ?_ (by with_reducible assumption) | refine Upd.setCell ?_ (fun h => absurd h (by first | exact Nat.lt_irrefl _ | (simp only []; omega))) _)⟩
    · by_cases hlm : L.length < M.length
      · have hst := Lib.hid (show lexC cmpS L M = -1 by
          obtain ⟨y, hy⟩ : ∃ y, M[k]? = some y := ⟨M[k], List.getElem?_eq_getElem (by omega)⟩
          rw [hl.out, drop_at hy, show L.drop k = [] from List.drop_of_length_le (by omega)]; rfl)
        go_wp2_with (first | (with_reducible refine wp_serial (by kernel_rfl) (by kernel_rfl) (by repeat with_reducible (first | apply NoBad.then | apply NoBad.inBlock | apply NoBad.jump | exact NoBad.rets)) ?_) | fail)
        all_goals go_returns
        all_goals exact ⟨by rw [hst.out]; rfl, (by repeat first | with_reducible (first | exact Upd.refl _ _ | assumption | apply Upd.drew | apply Upd.alloc) | refine Upd0.tr ?_ (by with_reducible assumption) | refine Upd.setCell ?_ (fun h => absurd h (by first | exact Nat.lt_irrefl _ | (simp only []; omega))) _)⟩
      · have hst := Lib.hid (show lexC cmpS L M = 0 by rw [hl.out, List.drop_of_length_le (by omega), List.drop_of_length_le (by omega)]; rfl)
        go_wp2_with (first | (with_reducible refine wp_serial (by kernel_rfl) (by kernel_rfl) (by repeat with_reducible (first | apply NoBad.then | apply NoBad.inBlock | apply NoBad.jump | exact NoBad.rets)) ?_) | fail)
        all_goals go_returns
        all_goals exact ⟨by rw [hst.out]; rfl, (by repeat first | with_reducible (first | exact Upd.refl _ _ | assumption | apply Upd.drew | apply Upd.alloc) | refine Upd0.tr ?_ (by with_reducible assumption) | refine Upd.setCell ?_ (fun h => absurd h (by first | exact Nat.lt_irrefl _ | (simp only []; omega))) _)⟩
theorem beq_ne {L M : List Bs} {k : Nat} {x y : Bs} (hx : L[k]? = some x) (hy : M[k]? = some y) (h : x ≠ y) : (L == M) = false := by
  rw [beq_eq_false_iff_ne]
  rintro rfl
  rw [hx] at hy; cases hy; exact h rfl
set_option maxRecDepth 100000 in
theorem seq_w (ao bo : Option Addr) (ca cb : Nat) (L M : List Bs) (w : World) (hL : SR w ao L) (hM : SR w bo M) (h1 : L.length ≤ 1000000) (h2 : M.length ≤ 1000000) :
    Calls Try.prog 70 #[.slice ao L.length ca, .slice bo M.length cb] w (Rets fun r w' => r = .bool (L == M) ∧ Upd0 w w') := by
  by_cases hlen : L.length = M.length
  · have hle1 : L.length ≤ M.length := by omega
    have hle2 : M.length ≤ L.length := by omega
    have hnn : ((L.length : Int) != (M.length : Int)) = false := by rw [bne_eq_false_iff_eq]; omega
    clear hlen
    go_enter Try.func70, Try.ntmps70
    go_wp2_with (first | (with_reducible refine wp_serial (by kernel_rfl) (by kernel_rfl) (by repeat with_reducible (first | apply NoBad.then | apply NoBad.inBlock | apply NoBad.jump | exact NoBad.rets)) ?_) | fail)
    go_loopw [13] (fun i wr => ∃ k : Nat, k ≤ L.length ∧ i = .int .i64 k ∧ Upd0 w wr ∧ Hid (L.take k = M.take k)) (fun i _ => L.length - (intOf i).toNat)
    case atStart => exact ⟨0, Nat.zero_le _, rfl, Upd.refl _ _, Lib.hid rfl⟩
    case round =>
      obtain ⟨k, hk, rfl, hu, hl⟩ := hrel
      by_cases hlt : k < L.length
      · obtain ⟨g, o, rfl, hg, hcs⟩ := (hL.up hu).some hlt
        obtain ⟨x, hx⟩ : ∃ x, L[k]? = some x := ⟨L[k], List.getElem?_eq_getElem hlt⟩
        have hc := hcs k x hx
        clear hcs
        obtain ⟨g2, o2, rfl, hg2, hcs2⟩ := (hM.up hu).some (show k < M.length by omega)
        obtain ⟨y, hy⟩ : ∃ y, M[k]? = some y := ⟨M[k], List.getElem?_eq_getElem (by omega)⟩
        have hc2 := hcs2 k y hy
        clear hcs2
        by_cases h0 : x = y
        · subst h0
          have hst := Lib.hid (show L.take (k + 1) = M.take (k + 1) by
            rw [List.take_succ_eq_append_getElem hlt, List.take_succ_eq_append_getElem (show k < M.length by omega), hl.out, (List.getElem?_eq_some_iff.1 hx).2, (List.getElem?_eq_some_iff.1 hy).2])
          clear hx hy
          go_wp2_with (first | (with_reducible refine wp_serial (by kernel_rfl) (by kernel_rfl) (by repeat with_reducible (first | apply NoBad.then | apply NoBad.inBlock | apply NoBad.jump | exact NoBad.rets)) ?_) | fail)
          go_roundw
          case rel => exact ⟨k + 1, by omega, by go_num, (by repeat first | with_reducible (first | exact Upd.refl _ _ | assumption | apply Upd.drew | apply Upd.alloc) | refine Upd0.tr ?_ (by with_reducible assumption) | refine Upd.setCell ?_ (fun h => absurd h (by first | exact Nat.lt_irrefl _ | (simp only []; omega))) _), Lib.hid hst.out⟩
          case measure => simp [intOf]; omega
        · have hst := Lib.hid (beq_ne hx hy h0)
          have hbq : (x == y) = false := beq_eq_false_iff_ne.2 h0
          clear hx hy
          go_wp2_with (first | (with_reducible refine wp_serial (by kernel_rfl) (by kernel_rfl) (by repeat with_reducible (first | apply NoBad.then | apply NoBad.inBlock | apply NoBad.jump | exact NoBad.rets)) ?_) | fail)
          all_goals go_returns
          all_goals exact ⟨by rw [hst.out]; rfl, (by repeat first | with_reducible (first | exact Upd.refl _ _ | assumption | apply Upd.drew | apply Upd.alloc) | refine Upd0.tr ?_ (by with_reducible assumption) | refine Upd.setCell ?_ (fun h => absurd h (by first | exact Nat.lt_irrefl _ | (simp only []; omega))) _)⟩
      · have hst := Lib.hid (show (L == M) = true by
          rw [beq_iff_eq]
          have := hl.out
          rwa [List.take_of_length_le (by omega), List.take_of_length_le (by omega)] at this)
        go_wp2_with (first | (with_reducible refine wp_serial (by kernel_rfl) (by kernel_rfl) (by repeat with_reducible (first | apply NoBad.then | apply NoBad.inBlock | apply NoBad.jump | exact NoBad.rets)) ?_) | fail)
        all_goals go_returns
        all_goals exact ⟨by rw [hst.out]; rfl, (by repeat first | with_reducible (first | exact Upd.refl _ _ | assumption | apply Upd.drew | apply Upd.alloc) | refine Upd0.tr ?_ (by with_reducible assumption) | refine Upd.setCell ?_ (fun h => absurd h (by first | exact Nat.lt_irrefl _ | (simp only []; omega))) _)⟩
  · have hst := Lib.hid (show (L == M) = false by rw [beq_eq_false_iff_ne]; rintro rfl; exact hlen rfl)
    have hnn : ((L.length : Int) != (M.length : Int)) = true := by rw [bne_iff_ne]; omega
    clear hlen
    go_enter Try.func70, Try.ntmps70
    go_wp2_with (first | (with_reducible refine wp_serial (by kernel_rfl) (by kernel_rfl) (by repeat with_reducible (first | apply NoBad.then | apply NoBad.inBlock | apply NoBad.jump | exact NoBad.rets)) ?_) | fail)
    all_goals go_returns
    all_goals exact ⟨by rw [hst.out]; rfl, (by repeat first | with_reducible (first | exact Upd.refl _ _ | assumption | apply Upd.drew | apply Upd.alloc) | refine Upd0.tr ?_ (by with_reducible assumption) | refine Upd.setCell ?_ (fun h => absurd h (by first | exact Nat.lt_irrefl _ | (simp only []; omega))) _)⟩
/-- half reversed: the first k and the last k have changed places -/
def RevI (L : List Bs) (k : Nat) (X : List Bs) : Prop := X.length = L.length ∧ ∀ i, i < L.length → X[i]? = if i < k ∨ L.length - k ≤ i then L[L.length - 1 - i]? else L[i]?
theorem RevI.start (L : List Bs) : RevI L 0 L := ⟨rfl, fun i h => by rw [if_neg (by omega)]⟩
theorem RevI.step {L X : List Bs} {k j : Nat} {x y : Bs} (h : RevI L k X) (hj : j + k + 1 = L.length) (hk : k < j) (hx : X[k]? = some x) (hy : X[j]? = some y) : RevI L (k + 1) ((X.set k y).set j x) := by
  obtain ⟨h1, h2⟩ := h
  refine ⟨by simp [h1], fun i hi => ?_⟩
  have ek := h2 k (by omega)
  have ej := h2 j (by omega)
  rw [if_neg (by omega), hx] at ek
  rw [if_neg (by omega), hy] at ej
  by_cases h3 : i = j
  · subst h3
    rw [List.getElem?_set_self (by simp; omega), if_pos (by omega), ek]; congr 1; omega
  · rw [List.getElem?_set_ne (by omega)]
    by_cases h4 : i = k
    · subst h4
      rw [List.getElem?_set_self (by omega), if_pos (by omega), ej]; congr 1; omega
    · rw [List.getElem?_set_ne (by omega), h2 i hi]
      by_cases h5 : i < k ∨ L.length - k ≤ i
      · rw [if_pos h5, if_pos (by omega)]
      · rw [if_neg h5, if_neg (by omega)]
theorem RevI.stop {L X : List Bs} {k j : Nat} (h : RevI L k X) (hj : j + k + 1 = L.length) (hk : j ≤ k) : X = L.reverse := by
  obtain ⟨h1, h2⟩ := h
  apply List.ext_getElem?
  intro i
  by_cases hi : i < L.length
  · rw [h2 i hi, List.getElem?_reverse hi]
    split
    · rfl
    · congr 1; omega
  · rw [List.getElem?_eq_none (by omega), List.getElem?_eq_none (by simp; omega)]
set_option maxRecDepth 100000 in
theorem rev_w (B : Nat) (ao : Option Addr) (cap : Nat) (L : List Bs) (w : World) (ho : w.ownsRow B 9 1 (.slice ao L.length cap) L.length (strs L)) (hm : L.length ≤ 1000000) :
    Calls Try.prog 93 #[.slice ao L.length cap] w (Rets fun r w' => r = .tuple #[] ∧ w'.ownsRow B 9 1 (.slice ao L.length cap) L.length (strs L.reverse) ∧ Upd (fun k => (Value.slice ao L.length cap).ownBlock = some k) w w') := by
  by_cases hn : L.length = 0
  · obtain rfl : L = [] := List.eq_nil_of_length_eq_zero hn
    have hoh := Lib.hid ho
    clear ho hm hn
    go_enter Try.func93, Try.ntmps93
    go_wp2_with (first | (with_reducible refine wp_serial (by kernel_rfl) (by kernel_rfl) (by repeat with_reducible (first | apply NoBad.then | apply NoBad.inBlock | apply NoBad.jump | exact NoBad.rets)) ?_) | fail)
    go_loopw [2, 3] (fun i j wr => i = .int .i64 0 ∧ j = .int .i64 (-1) ∧ Hid (wr = w)) (fun _ _ _ => 0)
    case atStart => exact ⟨rfl, rfl, Lib.hid rfl⟩
    case round =>
      obtain ⟨rfl, rfl, hw⟩ := hrel
      go_wp2_with (first | (with_reducible refine wp_serial (by kernel_rfl) (by kernel_rfl) (by repeat with_reducible (first | apply NoBad.then | apply NoBad.inBlock | apply NoBad.jump | exact NoBad.rets)) ?_) | fail)
      all_goals go_end0
      all_goals exact ⟨rfl, by rw [hw.out]; exact hoh.out, by rw [hw.out]; exact Upd.refl _ _⟩
  · obtain ⟨g, rfl⟩ := ownsRow_some ho (by omega)
    have hgB := (ho.lt g rfl).1
    obtain ⟨m, hm1⟩ : ∃ m, L.length = m + 1 := ⟨L.length - 1, by omega⟩
    have hm1h := Lib.hid hm1
    rw [hm1] at ho hm ⊢
    have hoh := Lib.hid ho
    clear ho hm1 hn
    go_enter Try.func93, Try.ntmps93
    go_wp2_with (first | (with_reducible refine wp_serial (by kernel_rfl) (by kernel_rfl) (by repeat with_reducible (first | apply NoBad.then | apply NoBad.inBlock | apply NoBad.jump | exact NoBad.rets)) ?_) | fail)
    go_loopw [2, 3] (fun i j wr => ∃ (k l : Nat) (X : List Bs), i = .int .i64 k ∧ j = .int .i64 l ∧ k + l = m ∧ Hid (RevI L k X) ∧ Hid (wr.ownsRow B 9 1 (.slice (some ⟨g, 0, none⟩) (m + 1) cap) (m + 1) (strs X)) ∧ Upd (fun k => k = g) w wr) (fun i _ _ => m + 1 - (intOf i).toNat)
    case atStart => exact ⟨0, m, L, rfl, rfl, by omega, Lib.hid (RevI.start L), hoh, Upd.refl _ _⟩
    case round =>
      obtain ⟨k, l, X, rfl, rfl, hkl, hX, ho, hu⟩ := hrel
      by_cases hlt : k < l
      · obtain ⟨x, hx⟩ : ∃ x, X[k]? = some x := ⟨X[k]'(by have := hX.out.1; have := hm1h.out; omega), List.getElem?_eq_getElem _⟩
        obtain ⟨y, hy⟩ : ∃ y, X[l]? = some y := ⟨X[l]'(by have := hX.out.1; have := hm1h.out; omega), List.getElem?_eq_getElem _⟩
        have c1 := ownsRow_cell ho.out rfl (strs_get hx)
        have c2 := ownsRow_cell ho.out rfl (strs_get hy)
        obtain ⟨cur, g1, g2, g3, g4, g5⟩ := ownsRow_blk ho.out
        have f1 : wr.frozen? ⟨g, k, none⟩ = false := blk_frz g1 k
        have f2 : wr.frozen? ⟨g, l, none⟩ = false := blk_frz g1 l
        have hst := Lib.hid (hX.out.step (j := l) (by have := hm1h.out; omega) hlt hx hy)
        have n1 : ¬ k = l := by omega
        have n2 : ¬ l = k := by omega
        clear hx hy g1 g2 g3 g4 g5
        go_wp2_with (first | (with_reducible refine wp_serial (by kernel_rfl) (by kernel_rfl) (by repeat with_reducible (first | apply NoBad.then | apply NoBad.inBlock | apply NoBad.jump | exact NoBad.rets)) ?_) | fail)
        go_roundw
        case rel => exact ⟨k + 1, l - 1, (X.set k y).set l x, by go_num, congrArg (Value.int IntKind.i64) (by omega), by omega, hst, Lib.hid (by
          have h3 := ownsRow_set1 (ownsRow_set1 (ownsRow_mono ho.out (fun _ _ => Nat.zero_le _)) k (.string ⟨y.toArray⟩)) l (.string ⟨x.toArray⟩)
          rw [strs_set, strs_set] at h3
          exact ownsRow_mono h3 (fun g' hg' => by cases hg'; exact hgB)), (Upd.setCell (Upd.setCell hu (fun _ => rfl) _) (fun _ => rfl) _).drew⟩
        case measure => simp [intOf]; omega
      · have hfin := Lib.hid (hX.out.stop (j := l) (by have := hm1h.out; omega) (by omega))
        go_wp2_with (first | (with_reducible refine wp_serial (by kernel_rfl) (by kernel_rfl) (by repeat with_reducible (first | apply NoBad.then | apply NoBad.inBlock | apply NoBad.jump | exact NoBad.rets)) ?_) | fail)
        all_goals go_end0
        all_goals exact ⟨rfl, by rw [← hfin.out]; exact ho.out, Upd.mono hu (fun n _ hn => by rw [hn]; rfl)⟩
end Go.Proofs.Ytijmbpokglohbaa

namespace Go.Proofs.Ytijmbpokglohbaa
open Go.RowKit
set_option linter.unusedSimpArgs false
set_option linter.unusedVariables false
theorem ownsRow_cap {w : World} {B : Nat} {e : TypeId} {s : Nat} {ao : Option Addr} {n cap : Nat} {xs : List Value} (h : w.ownsRow B e s (.slice ao n cap) n xs) : n ≤ cap ∧ cap ≤ maxLen := by
  rcases h.2 with ⟨h, rfl⟩ | ⟨g, cap', cur, hv, _, _, h1, h2, _⟩
  · cases h; exact ⟨Nat.le_refl _, by decide⟩
  · cases hv; exact ⟨h1, h2⟩
theorem trn_len (s : Bs) : (trn s).length ≤ s.length := by
  cases hb : cutB s with
  | false => unfold trn; rw [cutL_no hb]; simp
  | true =>
    obtain ⟨h1, h2⟩ := cut_lab hb
    have := lab_join h2
    unfold trn; simpa using this
set_option maxRecDepth 100000 in
theorem turned_w (s : Bs) (hm : s.length ≤ 70000) (w : World) : Calls Try.prog 69 #[.string ⟨s.toArray⟩] w (Rets fun r w' =>
    ∃ ao cap, r = .tuple #[.slice ao (trn s).length cap, .bool (cutB s)] ∧ SR w' ao (trn s) ∧ (trn s).length ≤ cap ∧ cap ≤ maxLen ∧ Upd0 w w') := by
  have hlen := Lib.hid (show (cutL (fold s)).length = (trn s).length by rw [← trn_turn, List.length_reverse])
  have hfl : (fold s).length ≤ 70000 := by rw [fold_len]; exact hm
  have hfm : (fold s).length ≤ maxLen := by unfold maxLen; omega
  have hcb := Lib.hid (cut_fold s).1
  have htl := trn_len s
  go_enter Try.func69, Try.ntmps69
  go_wp2_with (first
    | (go_at_call 66; (with_reducible refine (fold_w s hm _).use ?_); rintro v w1 ⟨rfl, hu1⟩)
    | (go_at_call 86; (with_reducible refine (cut_any (fold s) hfm _).use ?_); rintro v w2 ⟨ao, cap, rfl, hr, hb1⟩; have hu2 := Upd0.of_below hb1; rw [hcb.out]; have hrh := Lib.hid hr; clear hr)
    | (go_at_call 93; (with_reducible refine (rev_w _ ao cap (cutL (fold s)) _ hrh.out (by have := hlen.out; omega)).use ?_); rintro v w3 ⟨rfl, ho3, hu3⟩; have ho3h := Lib.hid ho3; clear ho3; have hu4 : Upd0 w w3 := Upd.trans (Upd0.tr hu1 hu2) hu3 (fun n hn hs => absurd hn (by have := (hrh.out.lt n hs).1; have := hu1.size; omega)))
    | (with_reducible refine wp_serial (by kernel_rfl) (by kernel_rfl) (by repeat with_reducible (first | apply NoBad.then | apply NoBad.inBlock | apply NoBad.jump | exact NoBad.rets)) ?_) | fail)
  all_goals go_returns
  refine ⟨ao, cap, by rw [hlen.out]; rfl, ?_, ?_, ?_, hu4⟩
  · rw [← trn_turn]; exact own_sr ho3h.out (by simp)
  · rw [← hlen.out]; exact (ownsRow_cap ho3h.out).1
  · exact (ownsRow_cap ho3h.out).2
theorem SR.take {w : World} {ao : Option Addr} {L : List Bs} (h : SR w ao L) (k : Nat) : SR w ao (L.take k) := by
  rcases h with rfl | ⟨g, o, h1, h2, h3⟩
  · exact .inl (by simp)
  · refine .inr ⟨g, o, h1, h2, fun i x hx => h3 i x ?_⟩
    rw [List.getElem?_take] at hx
    split at hx
    · exact hx
    · cases hx
set_option maxRecDepth 100000 in
theorem under_w (n t : Bs) (hn : n.length ≤ 70000) (ht : t.length ≤ 70000) (w : World) : Calls Try.prog 47 #[.string ⟨n.toArray⟩, .string ⟨t.toArray⟩] w (Rets fun r w' => r = .bool (undB n t) ∧ Upd0 w w') := by
  have tok1 : True := trivial
  have l1 := trn_len n
  have l2 := trn_len t
  cases c1 : cutB n <;> cases c2 : cutB t
  rotate_left 3
  · rcases Nat.lt_or_ge (trn n).length (trn t).length with hlt | hge
    · have hf := Lib.hid (show undB n t = false by unfold undB; rw [decide_eq_false (by omega)]; simp)
      have c1h := Lib.hid c1
      have c2h := Lib.hid c2
      clear c1 c2
      go_enter Try.func47, Try.ntmps47
      go_wp2_with (first
        | (go_at_call 69; have _t := tok1; (with_reducible refine (turned_w n hn _).use ?_); rintro v w1 ⟨ao, ca, rfl, hs1, hc1, hc2, hu1⟩; rw [c1h.out]; have hs1h := Lib.hid hs1; clear hs1; clear tok1 _t)
        | (go_at_call 69; (with_reducible refine (turned_w t ht _).use ?_); rintro v w2 ⟨bo, cb, rfl, hs2, hd1, hd2, hu2⟩; rw [c2h.out]; have hs2h := Lib.hid hs2; clear hs2)
        | (with_reducible refine wp_serial (by kernel_rfl) (by kernel_rfl) (by repeat with_reducible (first | apply NoBad.then | apply NoBad.inBlock | apply NoBad.jump | exact NoBad.rets)) ?_) | fail)
      all_goals go_returns
      all_goals exact ⟨by rw [hf.out]; rfl, (by repeat first | with_reducible (first | exact Upd.refl _ _ | assumption | apply Upd.drew | apply Upd.alloc) | refine Upd0.tr ?_ (by with_reducible assumption) | refine Upd.setCell ?_ (fun h => absurd h (by first | exact Nat.lt_irrefl _ | (simp only []; omega))) _)⟩
    · have hf := Lib.hid (show undB n t = ((trn n).take (trn t).length == trn t) by unfold undB; rw [c1, c2, decide_eq_true (by omega)]; simp)
      have htk := Lib.hid (show ((trn n).take (trn t).length).length = (trn t).length by simp; omega)
      have c1h := Lib.hid c1
      have c2h := Lib.hid c2
      clear c1 c2
      go_enter Try.func47, Try.ntmps47
      go_wp2_with (first
        | (go_at_call 69; have _t := tok1; (with_reducible refine (turned_w n hn _).use ?_); rintro v w1 ⟨ao, ca, rfl, hs1, hc1, hc2, hu1⟩; rw [c1h.out]; have hs1h := Lib.hid hs1; clear hs1; clear tok1 _t; unfold maxLen at hc2)
        | (go_at_call 69; (with_reducible refine (turned_w t ht _).use ?_); rintro v w2 ⟨bo, cb, rfl, hs2, hd1, hd2, hu2⟩; rw [c2h.out]; have hs2h := Lib.hid hs2; clear hs2; have hle3 : (trn t).length ≤ ca := (by omega); unfold maxLen at hd2)
        | (go_at_call 70; have hq := seq_w ao bo ca cb ((trn n).take (trn t).length) (trn t) w2 (SR.take (hs1h.out.up hu2) _) hs2h.out (by simp; omega) (by omega); rw [htk.out] at hq; refine hq.use ?_; clear hq; rintro v w3 ⟨rfl, hu3⟩)
        | (with_reducible refine wp_serial (by kernel_rfl) (by kernel_rfl) (by repeat with_reducible (first | apply NoBad.then | apply NoBad.inBlock | apply NoBad.jump | exact NoBad.rets)) ?_) | fail)
      all_goals go_returns
      all_goals exact ⟨by rw [hf.out]; rfl, (by repeat first | with_reducible (first | exact Upd.refl _ _ | assumption | apply Upd.drew | apply Upd.alloc) | refine Upd0.tr ?_ (by with_reducible assumption) | refine Upd.setCell ?_ (fun h => absurd h (by first | exact Nat.lt_irrefl _ | (simp only []; omega))) _)⟩
  all_goals
    have hf := Lib.hid (show undB n t = false by unfold undB; rw [c1, c2]; simp)
    have c1h := Lib.hid c1
    have c2h := Lib.hid c2
    clear c1 c2
    go_enter Try.func47, Try.ntmps47
    go_wp2_with (first
      | (go_at_call 69; have _t := tok1; (with_reducible refine (turned_w n hn _).use ?_); rintro v w1 ⟨ao, ca, rfl, hs1, hc1, hc2, hu1⟩; rw [c1h.out]; have hs1h := Lib.hid hs1; clear hs1; clear tok1 _t)
      | (go_at_call 69; (with_reducible refine (turned_w t ht _).use ?_); rintro v w2 ⟨bo, cb, rfl, hs2, hd1, hd2, hu2⟩; rw [c2h.out]; have hs2h := Lib.hid hs2; clear hs2)
      | (with_reducible refine wp_serial (by kernel_rfl) (by kernel_rfl) (by repeat with_reducible (first | apply NoBad.then | apply NoBad.inBlock | apply NoBad.jump | exact NoBad.rets)) ?_) | fail)
    all_goals go_returns
    all_goals exact ⟨by rw [hf.out]; rfl, (by repeat first | with_reducible (first | exact Upd.refl _ _ | assumption | apply Upd.drew | apply Upd.alloc) | refine Upd0.tr ?_ (by with_reducible assumption) | refine Upd.setCell ?_ (fun h => absurd h (by first | exact Nat.lt_irrefl _ | (simp only []; omega))) _)⟩
set_option maxRecDepth 100000 in
theorem compare_w (a b : Bs) (ha : a.length ≤ 70000) (hb : b.length ≤ 70000) (w : World) : Calls Try.prog 91 #[.string ⟨a.toArray⟩, .string ⟨b.toArray⟩] w (Rets fun r w' => r = .int .i64 (cmpN a b) ∧ Upd0 w w') := by
  have tok1 : True := trivial
  have l1 := trn_len a
  have l2 := trn_len b
  cases c1 : cutB a <;> cases c2 : cutB b
  all_goals
    have hf := Lib.hid (show cmpN a b = _ by unfold cmpN; rw [c1, c2])
    have c1h := Lib.hid c1
    have c2h := Lib.hid c2
    clear c1 c2
    go_enter Try.func91, Try.ntmps91
    go_wp2_with (first
      | (go_at_call 69; have _t := tok1; (with_reducible refine (turned_w a ha _).use ?_); rintro v w1 ⟨ao, ca, rfl, hs1, hc1, hc2, hu1⟩; rw [c1h.out]; have hs1h := Lib.hid hs1; clear hs1; clear tok1 _t)
      | (go_at_call 69; (with_reducible refine (turned_w b hb _).use ?_); rintro v w2 ⟨bo, cb, rfl, hs2, hd1, hd2, hu2⟩; rw [c2h.out]; have hs2h := Lib.hid hs2; clear hs2)
      | (go_at_call 107; (with_reducible refine (cmp_name a b _).use ?_); rintro v w3 ⟨rfl, hu3⟩)
      | (go_at_call 108; (with_reducible refine (scmp_w ao bo ca cb (trn a) (trn b) w2 (hs1h.out.up hu2) hs2h.out (by omega) (by omega)).use ?_); rintro v w3 ⟨rfl, hu3⟩)
      | (with_reducible refine wp_serial (by kernel_rfl) (by kernel_rfl) (by repeat with_reducible (first | apply NoBad.then | apply NoBad.inBlock | apply NoBad.jump | exact NoBad.rets)) ?_) | fail)
    all_goals go_returns
    all_goals exact ⟨by rw [hf.out]; rfl, (by repeat first | with_reducible (first | exact Upd.refl _ _ | assumption | apply Upd.drew | apply Upd.alloc) | refine Upd0.tr ?_ (by with_reducible assumption) | refine Upd.setCell ?_ (fun h => absurd h (by first | exact Nat.lt_irrefl _ | (simp only []; omega))) _)⟩
end Go.Proofs.Ytijmbpokglohbaa

namespace Go.Proofs.Ytijmbpokglohbaa
open Go.RowKit
set_option linter.unusedSimpArgs false
set_option linter.unusedVariables false
theorem labels_w (s : Bs) (hm : s.length ≤ 70000) (w : World) : Calls Try.prog 76 #[.string ⟨s.toArray⟩] w (Rets fun r w' =>
    ∃ ao cap, r = .slice ao (cutL s).length cap ∧ w'.ownsRow w.heap.size 9 1 (.slice ao (cutL s).length cap) (cutL s).length (strs (cutL s)) ∧ Upd0 w w') := by
  have hmm : s.length ≤ maxLen := by unfold maxLen; omega
  go_enter Try.func76, Try.ntmps76
  go_wp2_with (first
    | (go_at_call 86; (with_reducible refine (cut_any s hmm _).use ?_); rintro v w1 ⟨ao, cap, rfl, hr, hb1⟩; have hu1 := Upd0.of_below hb1; have hrh := Lib.hid hr; clear hr)
    | (with_reducible refine wp_serial (by kernel_rfl) (by kernel_rfl) (by repeat with_reducible (first | apply NoBad.then | apply NoBad.inBlock | apply NoBad.jump | exact NoBad.rets)) ?_) | fail)
  all_goals go_returns
  all_goals exact ⟨ao, cap, rfl, hrh.out, (by repeat first | with_reducible (first | exact Upd.refl _ _ | assumption | apply Upd.drew | apply Upd.alloc) | refine Upd0.tr ?_ (by with_reducible assumption) | refine Upd.setCell ?_ (fun h => absurd h (by first | exact Nat.lt_irrefl _ | (simp only []; omega))) _)⟩
theorem rlabels_w (s : Bs) (hm : s.length ≤ 70000) (w : World) : Calls Try.prog 27 #[.string ⟨s.toArray⟩] w (Rets fun r w' =>
    ∃ ao cap, r = .slice ao (cutL s).length cap ∧ w'.ownsRow w.heap.size 9 1 (.slice ao (cutL s).length cap) (cutL s).length (strs (cutL s)) ∧ Upd0 w w') := by
  have hmm : s.length ≤ maxLen := by unfold maxLen; omega
  go_enter Try.func27, Try.ntmps27
  go_wp2_with (first
    | (go_at_call 55; (with_reducible refine (rcut_any s hmm _).use ?_); rintro v w1 ⟨ao, cap, rfl, hr, hu1⟩; have hrh := Lib.hid hr; clear hr)
    | (with_reducible refine wp_serial (by kernel_rfl) (by kernel_rfl) (by repeat with_reducible (first | apply NoBad.then | apply NoBad.inBlock | apply NoBad.jump | exact NoBad.rets)) ?_) | fail)
  all_goals go_returns
  all_goals exact ⟨ao, cap, rfl, hrh.out, (by repeat first | with_reducible (first | exact Upd.refl _ _ | assumption | apply Upd.drew | apply Upd.alloc) | refine Upd0.tr ?_ (by with_reducible assumption) | refine Upd.setCell ?_ (fun h => absurd h (by first | exact Nat.lt_irrefl _ | (simp only []; omega))) _)⟩
set_option maxRecDepth 100000 in
theorem rtexts2_w (ao bo : Option Addr) (ca cb : Nat) (L M : List Bs) (w : World) (hL : SR w ao L) (hM : SR w bo M) (h1 : L.length ≤ 1000000) (h2 : M.length ≤ 1000000) :
    Calls Try.prog 40 #[.slice ao L.length ca, .slice bo M.length cb] w (Rets fun r w' => r = .bool (L == M) ∧ Upd0 w w') := by
  by_cases hlen : L.length = M.length
  · have hle1 : L.length ≤ M.length := by omega
    have hle2 : M.length ≤ L.length := by omega
    have hnn : ((L.length : Int) != (M.length : Int)) = false := by rw [bne_eq_false_iff_eq]; omega
    clear hlen
    go_enter Try.func40, Try.ntmps40
    go_wp2_with (first | (with_reducible refine wp_serial (by kernel_rfl) (by kernel_rfl) (by repeat with_reducible (first | apply NoBad.then | apply NoBad.inBlock | apply NoBad.jump | exact NoBad.rets)) ?_) | fail)
    go_loopw [5] (fun i wr => ∃ k : Nat, k ≤ L.length ∧ i = .int .i64 k ∧ Upd0 w wr ∧ Hid (L.take k = M.take k)) (fun i _ => L.length - (intOf i).toNat)
    case atStart => exact ⟨0, Nat.zero_le _, rfl, Upd.refl _ _, Lib.hid rfl⟩
    case round =>
      obtain ⟨k, hk, rfl, hu, hl⟩ := hrel
      by_cases hlt : k < L.length
      · obtain ⟨g, o, rfl, hg, hcs⟩ := (hL.up hu).some hlt
        obtain ⟨x, hx⟩ : ∃ x, L[k]? = some x := ⟨L[k], List.getElem?_eq_getElem hlt⟩
        have hc := hcs k x hx
        clear hcs
        obtain ⟨g2, o2, rfl, hg2, hcs2⟩ := (hM.up hu).some (show k < M.length by omega)
        obtain ⟨y, hy⟩ : ∃ y, M[k]? = some y := ⟨M[k], List.getElem?_eq_getElem (by omega)⟩
        have hc2 := hcs2 k y hy
        clear hcs2
        by_cases h0 : x = y
        · subst h0
          have hst := Lib.hid (show L.take (k + 1) = M.take (k + 1) by
            rw [List.take_succ_eq_append_getElem hlt, List.take_succ_eq_append_getElem (show k < M.length by omega), hl.out, (List.getElem?_eq_some_iff.1 hx).2, (List.getElem?_eq_some_iff.1 hy).2])
          clear hx hy
          go_wp2_with (first | (with_reducible refine wp_serial (by kernel_rfl) (by kernel_rfl) (by repeat with_reducible (first | apply NoBad.then | apply NoBad.inBlock | apply NoBad.jump | exact NoBad.rets)) ?_) | fail)
          go_roundw
          case rel => exact ⟨k + 1, by omega, by go_num, (by repeat first | with_reducible (first | exact Upd.refl _ _ | assumption | apply Upd.drew | apply Upd.alloc) | refine Upd0.tr ?_ (by with_reducible assumption) | refine Upd.setCell ?_ (fun h => absurd h (by first | exact Nat.lt_irrefl _ | (simp only []; omega))) _), Lib.hid hst.out⟩
          case measure => simp [intOf]; omega
        · have hst := Lib.hid (beq_ne hx hy h0)
          have hbq : (x == y) = false := beq_eq_false_iff_ne.2 h0
          clear hx hy
          go_wp2_with (first | (with_reducible refine wp_serial (by kernel_rfl) (by kernel_rfl) (by repeat with_reducible (first | apply NoBad.then | apply NoBad.inBlock | apply NoBad.jump | exact NoBad.rets)) ?_) | fail)
          all_goals go_returns
          all_goals exact ⟨by rw [hst.out]; rfl, (by repeat first | with_reducible (first | exact Upd.refl _ _ | assumption | apply Upd.drew | apply Upd.alloc) | refine Upd0.tr ?_ (by with_reducible assumption) | refine Upd.setCell ?_ (fun h => absurd h (by first | exact Nat.lt_irrefl _ | (simp only []; omega))) _)⟩
      · have hst := Lib.hid (show (L == M) = true by
          rw [beq_iff_eq]
          have := hl.out
          rwa [List.take_of_length_le (by omega), List.take_of_length_le (by omega)] at this)
        go_wp2_with (first | (with_reducible refine wp_serial (by kernel_rfl) (by kernel_rfl) (by repeat with_reducible (first | apply NoBad.then | apply NoBad.inBlock | apply NoBad.jump | exact NoBad.rets)) ?_) | fail)
        all_goals go_returns
        all_goals exact ⟨by rw [hst.out]; rfl, (by repeat first | with_reducible (first | exact Upd.refl _ _ | assumption | apply Upd.drew | apply Upd.alloc) | refine Upd0.tr ?_ (by with_reducible assumption) | refine Upd.setCell ?_ (fun h => absurd h (by first | exact Nat.lt_irrefl _ | (simp only []; omega))) _)⟩
  · have hst := Lib.hid (show (L == M) = false by rw [beq_eq_false_iff_ne]; rintro rfl; exact hlen rfl)
    have hnn : ((L.length : Int) != (M.length : Int)) = true := by rw [bne_iff_ne]; omega
    clear hlen
    go_enter Try.func40, Try.ntmps40
    go_wp2_with (first | (with_reducible refine wp_serial (by kernel_rfl) (by kernel_rfl) (by repeat with_reducible (first | apply NoBad.then | apply NoBad.inBlock | apply NoBad.jump | exact NoBad.rets)) ?_) | fail)
    all_goals go_returns
    all_goals exact ⟨by rw [hst.out]; rfl, (by repeat first | with_reducible (first | exact Upd.refl _ _ | assumption | apply Upd.drew | apply Upd.alloc) | refine Upd0.tr ?_ (by with_reducible assumption) | refine Upd.setCell ?_ (fun h => absurd h (by first | exact Nat.lt_irrefl _ | (simp only []; omega))) _)⟩
/-- a name without its first label -/
def upS (s : Bs) : Bs := if cutB s then s.drop ((s.headD 0).toNat + 1) else []
def upC (s : Bs) : Int := if cutB s then (if s = [] then 5 else 0) else 1
theorem sr_tail {w : World} {g o : Nat} {x : Bs} {L : List Bs} (h : SR w (some ⟨g, o, none⟩) (x :: L)) : SR w (some ⟨g, o + 1, none⟩) L := by
  rcases h with h | ⟨g', o', h1, h2, h3⟩
  · cases h
  · cases h1
    exact .inr ⟨g, o + 1, rfl, h2, fun i y hy => by rw [show o + 1 + i = o + (i + 1) by omega]; exact h3 (i + 1) y hy⟩
theorem up_join {s : Bs} {x : Bs} {L : List Bs} (h : cutB s = true) (hL : cutL s = x :: L) : jnS L = upS s ∧ jnC L = 0 ∧ upC s = 0 := by
  cases s with
  | nil => cases hL
  | cons k t =>
    obtain ⟨h1, h2, h3⟩ := par_facts h
    rw [hL, List.cons.injEq] at h3
    obtain ⟨h4, h5⟩ := cut_lab h2
    obtain ⟨h6, h7⟩ := lab_jn _ _ h5
    have hB : jnB L = true := by rw [h3.2, jnB, h7, h6, decide_eq_true h4]; rfl
    rw [jnS, jnC, hB, upS, upC, h]
    refine ⟨?_, rfl, rfl⟩
    show jn L = _
    rw [h3.2, h6]; simp
end Go.Proofs.Ytijmbpokglohbaa

namespace Go.Proofs.Ytijmbpokglohbaa
open Go.RowKit
set_option linter.unusedSimpArgs false
set_option linter.unusedVariables false
def OffR (w : World) (e : TypeId) (s : Nat) (v : Value) (n : Nat) (xs : List Value) : Prop :=
  xs.length = n * s ∧ ((v = .slice none 0 0 ∧ n = 0) ∨ ∃ g off cap cur, v = .slice (some ⟨g, off, none⟩) n cap ∧ w.heap[g]? = some (.cells cur e (0, 0)) ∧ n ≤ cap ∧ cap ≤ maxLen ∧ off + cap * s = cur.size ∧ (cur.toList.drop off).take (n * s) = xs)
section
variable {w w' : World} {e : TypeId} {s n : Nat} {v : Value} {xs : List Value}
theorem OffR.nil (w : World) (e : TypeId) (s : Nat) : OffR w e s (.slice none 0 0) 0 [] := ⟨by simp, .inl ⟨rfl, rfl⟩⟩
theorem OffR.of_own {B : Nat} (h : w.ownsRow B e s v n xs) : OffR w e s v n xs := by
  refine ⟨h.1, ?_⟩
  rcases h.2 with ⟨h1, h2⟩ | ⟨g, cap, cur, h1, _, h2, h3, h4, h5, h6⟩
  · exact .inl ⟨h1, h2⟩
  · exact .inr ⟨g, 0, cap, cur, h1, h2, h3, h4, by rw [h5]; omega, by simpa using h6⟩
theorem OffR.kind (h : OffR w e s v n xs) {g : Nat} (hg : v.ownBlock = some g) : ∃ cur, w.heap[g]? = some (.cells cur e (0, 0)) := by
  rcases h.2 with ⟨rfl, _⟩ | ⟨g', off, cap, cur, rfl, hb, _⟩
  · cases hg
  · simp [Value.ownBlock] at hg
    subst hg
    exact ⟨cur, hb⟩
theorem OffR.lt (h : OffR w e s v n xs) {g : Nat} (hg : v.ownBlock = some g) : g < w.heap.size := by
  obtain ⟨cur, hc⟩ := h.kind hg
  exact blk_lt hc
theorem OffR.upd {S : Nat → Prop} (h : OffR w e s v n xs) (k : Upd S w w') (hS : ∀ g, v.ownBlock = some g → ¬ S g) : OffR w' e s v n xs := by
  refine ⟨h.1, ?_⟩
  rcases h.2 with h | ⟨g, off, cap, cur, rfl, hb, r⟩
  · exact .inl h
  · exact .inr ⟨g, off, cap, cur, rfl, k.block (hS g rfl) hb, r⟩
theorem OffR.upd0 (h : OffR w e s v n xs) (k : Upd0 w w') : OffR w' e s v n xs := h.upd k (fun _ _ h => h)
theorem OffR.ext (h : OffR w e s v n xs) (k : Ext w w') : OffR w' e s v n xs := by
  refine ⟨h.1, ?_⟩
  rcases h.2 with h | ⟨g, off, cap, cur, rfl, hb, r⟩
  · exact .inl h
  · exact .inr ⟨g, off, cap, cur, rfl, ext_block k hb, r⟩
theorem OffR.slice (h : OffR w e s v n xs) : ∃ ao cap, v = .slice ao n cap := by
  rcases h.2 with ⟨rfl, rfl⟩ | ⟨g, off, cap, cur, rfl, _⟩ <;> exact ⟨_, _, rfl⟩
theorem OffR.some {ao : Option Addr} {cap : Nat} (h : OffR w e s (.slice ao n cap) n xs) (hn : 0 < n) : ∃ g off, ao = Option.some ⟨g, off, none⟩ := by
  rcases h.2 with ⟨h, rfl⟩ | ⟨g, off, cap, cur, hv, _⟩
  · omega
  · injection hv with h1; exact ⟨g, off, h1⟩
theorem OffR.cell {g off cap : Nat} (h : OffR w e s (.slice (Option.some ⟨g, off, none⟩) n cap) n xs) {j : Nat} {u : Value} (hj : xs[j]? = Option.some u) : w.cell? ⟨g, off + j, none⟩ = Option.some u := by
  rcases h.2 with ⟨h, _⟩ | ⟨g', off', cap', cur, hv, hb, _, _, _, ht⟩
  · cases h
  · cases hv
    rw [blk_cell hb]
    rw [← ht, List.getElem?_take] at hj
    split at hj
    · rw [List.getElem?_drop] at hj
      simpa using hj
    · cases hj
theorem OffR.blk {g off cap : Nat} (h : OffR w e s (.slice (Option.some ⟨g, off, none⟩) n cap) n xs) : ∃ cur, w.heap[g]? = Option.some (.cells cur e (0, 0)) ∧ n ≤ cap ∧ cap ≤ maxLen ∧ off + cap * s = cur.size ∧ (cur.toList.drop off).take (n * s) = xs := by
  rcases h.2 with ⟨h, _⟩ | ⟨g', off', cap', cur, hv, hb, r⟩
  · cases h
  · cases hv
    exact ⟨cur, hb, r⟩
/-- the part behind k elements -/
theorem OffR.drop {g off cap k : Nat} (h : OffR w e s (.slice (Option.some ⟨g, off, none⟩) n cap) n xs) (hk : k ≤ n) : OffR w e s (.slice (Option.some ⟨g, off + k * s, none⟩) (n - k) (cap - k)) (n - k) (xs.drop (k * s)) := by
  obtain ⟨cur, hb, h1, h2, h3, h4⟩ := h.blk
  refine ⟨by rw [List.length_drop, h.1, ← Nat.sub_mul], .inr ⟨g, _, _, cur, rfl, hb, by omega, by omega, ?_, ?_⟩⟩
  · rw [← h3, Nat.add_assoc, ← Nat.add_mul]; congr 2; omega
  · rw [← h4, ← List.drop_drop, List.drop_take, ← Nat.sub_mul]
/-- the first k elements -/
theorem OffR.take {g off cap k : Nat} (h : OffR w e s (.slice (Option.some ⟨g, off, none⟩) n cap) n xs) (hk : k ≤ n) : OffR w e s (.slice (Option.some ⟨g, off, none⟩) k cap) k (xs.take (k * s)) := by
  obtain ⟨cur, hb, h1, h2, h3, h4⟩ := h.blk
  have hm : k * s ≤ n * s := Nat.mul_le_mul_right s hk
  refine ⟨by rw [List.length_take, h.1]; omega, .inr ⟨g, _, _, cur, rfl, hb, by omega, h2, h3, ?_⟩⟩
  rw [← h4, List.take_take, Nat.min_eq_left hm]
/-- a cell is written -/
theorem OffR.set {g off cap : Nat} (h : OffR w e s (.slice (Option.some ⟨g, off, none⟩) n cap) n xs) (j : Nat) (hj : j < n * s) (u : Value) : OffR (w.setCell ⟨g, off + j, none⟩ u) e s (.slice (Option.some ⟨g, off, none⟩) n cap) n (xs.set j u) := by
  obtain ⟨cur, hb, h1, h2, h3, h4⟩ := h.blk
  refine ⟨by rw [List.length_set, h.1], .inr ⟨g, off, cap, _, rfl, blk_set hb (off + j) u, h1, h2, by simpa using h3, ?_⟩⟩
  rw [Array.toList_setIfInBounds, List.drop_set, if_neg (by omega), List.take_set, h4]
  congr 1
  omega
variable {P : Program}
theorem run_append_off (t ty : TypeId) (i : TypeInfo) (ht : P.underlying t = Option.some (.slice e)) (hi : P.info? e = Option.some i)
    (g off sLen sCap : Nat) (cur : Array Value) (hg : w.heap[g]? = Option.some (.cells cur e (0, 0)))
    (a : Addr) (m c : Nat) (news : List Value) (hl : news.length = m * i.size) (hnews : ∀ j u, news[j]? = Option.some u → w.cell? (a.add j) = Option.some u) (h1 : ∀ u ∈ news, u.oneCell' = true)
    (hroom : sLen + m ≤ sCap) (hfit : off + sLen * i.size + news.length ≤ cur.size) :
    (Builtin.append_ #[t, t] ty #[.slice (Option.some ⟨g, off, none⟩) sLen sCap, .slice (Option.some a) m c]).run P w =
      .ok (.slice (Option.some ⟨g, off, none⟩) (sLen + m) sCap) (w.setRow g (cur.toList.take (off + sLen * i.size) ++ news ++ cur.toList.drop (off + sLen * i.size + news.length)).toArray) := by
  have hf := run_firstCells_some (P := P) w i.size m a m c news hl hnews
  have hst := run_storeCells_at P g (off + sLen * i.size) e news 0 cur w hg (by simpa using hfit) h1
  simp only [Nat.add_zero] at hst
  simp [Builtin.append_, run_underlying ht, sizeOf, typeInfo, hi, Builtin.lenOf, hroom, hf, Addr.add_lit, hst]
/-- append to such a slice -/
theorem run_app_off {W : World} (hext : Ext w W) (t ty : TypeId) (i : TypeInfo) (z : Value) (size bytes : Nat) (ht : P.underlying t = Option.some (.slice e)) (hi : P.info? e = Option.some i) (hz : i.zero = Option.some z)
    (hsize : i.size = size) (hby : i.bytes = bytes) (hzs : z.cells.size = size) (hsz : 0 < size)
    (v : Value) (n : Nat) (xs : List Value) (hown : OffR w e size v n xs)
    (ad : Addr) (m c : Nat) (news : List Value) (hm : 0 < m) (hl : news.length = m * size) (hnews : ∀ j u, news[j]? = Option.some u → W.cell? (ad.add j) = Option.some u) (h1 : ∀ u ∈ news, u.oneCell' = true)
    (hbytes : (n + m) * bytes ≤ 140737488355328) (h63 : n + m ≤ 140737488355328) :
    ∃ ao' cap' W', (Builtin.append_ #[t, t] ty #[v, .slice (Option.some ad) m c]).run P W = .ok (.slice ao' (n + m) cap') W' ∧ OffR W' e size (.slice ao' (n + m) cap') (n + m) (xs ++ news) ∧ Upd (fun k => v.ownBlock = Option.some k) W W' ∧ Fresh W v (.slice ao' (n + m) cap') := by
  have hmx : n + m ≤ maxLen := by unfold maxLen; omega
  rcases hown.2 with ⟨rfl, rfl⟩ | ⟨g, off, cap, cur, rfl, hgg, hnc, hcm, hcs, htk⟩
  · have hx : xs = [] := List.eq_nil_of_length_eq_zero (by simpa using hown.1)
    subst hx
    obtain ⟨ao', cap', W', hr, ho, hu, hf, _⟩ := run_append_blk (P := P) hext t ty e i z size bytes ht hi hz hsize hby hzs hsz (.slice none 0 0) 0 [] (World.ownsRow_nil w 0 e size) ad m c news hl hnews h1 hbytes h63
    exact ⟨ao', cap', W', hr, OffR.of_own ho, hu, hf⟩
  · have hgW := ext_block hext hgg
    by_cases hroom : n + m ≤ cap
    · have hms : (n + m) * size ≤ cap * size := Nat.mul_le_mul_right _ hroom
      rw [Nat.add_mul] at hms
      have hfit : off + n * i.size + news.length ≤ cur.size := by rw [hl, hsize]; omega
      have hr := run_append_off (P := P) (w := W) t ty i ht hi g off n cap cur hgW ad m c news (by rw [hsize]; exact hl) hnews h1 hroom hfit
      rw [hsize] at hr hfit
      have hcl : cur.toList.length = cur.size := Array.length_toList
      refine ⟨_, _, _, hr, ⟨by rw [List.length_append, hown.1, hl, ← Nat.add_mul], .inr ⟨g, off, cap, _, rfl, setRow_heap W g cur _ e _ hgW, hroom, hcm, ?_, ?_⟩⟩, ?_, fun k hk => .inl hk⟩
      · simp only [List.size_toArray, List.length_append, List.length_take, List.length_drop, hcl]
        omega
      · have e1 : (cur.toList.take (off + n * size)).drop off = xs := by rw [List.drop_take, Nat.add_sub_cancel_left]; exact htk
        have e2 : (cur.toList.take (off + n * size)).length = off + n * size := by rw [List.length_take, hcl]; omega
        rw [List.append_assoc, List.drop_append_of_le_length (by rw [e2]; omega), e1, List.take_append, hown.1, List.take_of_length_le (by rw [hown.1, Nat.add_mul]; omega), Nat.add_mul, Nat.add_sub_cancel_left, ← hl, List.take_left]
      · exact Upd.setRow (S := fun k => (Value.slice (Option.some ⟨g, off, none⟩) n cap).ownBlock = Option.some k) (Upd.refl _ W) (fun _ => rfl) _
    · have holds : ∀ j u, xs[j]? = Option.some u → W.cell? ((⟨g, off, none⟩ : Addr).add j) = Option.some u := fun j u hj => by
        rw [Addr.add_lit]
        exact (hown.ext hext).cell hj
      have hr := run_append_grow (P := P) W t ty e i z ht hi hz ⟨g, off, none⟩ n cap xs (by rw [hsize]; exact hown.1) holds ad m c news (by rw [hsize]; exact hl) hnews (by omega) (by omega) (by rw [hby]; exact growslice_fits (by omega) hbytes)
      have hge := grownCap_ge W (n + m) cap e
      have hcm' : grownCap W (n + m) cap e ≤ maxLen := grownCap_le_maxLen W (n + m) cap e hmx
      refine ⟨_, _, _, hr, ⟨by rw [List.length_append, hown.1, hl, ← Nat.add_mul], .inr ⟨W.heap.size, 0, _, _, rfl, heap_alloc_new W.drew _, hge, hcm', ?_, ?_⟩⟩, ((Upd.refl _ W).drew).alloc _, fun k hk => .inr (by simp [Value.ownBlock] at hk; omega)⟩
      · simp only [Array.size_append, List.size_toArray, size_zeroCells, hzs, hown.1, hl, ← Nat.add_mul, Nat.zero_add]
        congr 1
        omega
      · simp only [Array.toList_append, List.append_assoc, List.drop_zero]
        have : (xs ++ news).length = (n + m) * size := by rw [List.length_append, hown.1, hl, ← Nat.add_mul]
        rw [← List.append_assoc, ← this]
        exact List.take_left
theorem wpList_app_off {w W : World} (hext : Ext w W) {ops : Array Oper} {rest : List Oper} {o : Oper} {a : Act} {Q : Exit → Act → World → Prop} (hgd : o.guard = none) (sl x : Operand) (t : TypeId)
    (ho : o.op = .call { callee := .builtin .append, args := #[sl, x], argTypes := #[t, t] })
    (e : TypeId) (i : TypeInfo) (z : Value) (size bytes : Nat) (ht : P.underlying t = Option.some (.slice e)) (hi : P.info? e = Option.some i) (hz : i.zero = Option.some z)
    (hsize : i.size = size) (hby : i.bytes = bytes) (hzs : z.cells.size = size) (hsz : 0 < size)
    (v : Value) (n : Nat) (xs : List Value) (hown : OffR w e size v n xs) (hs : a.eval sl = v)
    (g m c : Nat) (news : List Value) (hm : 0 < m) (hx : a.eval x = .slice (Option.some ⟨g, 0, none⟩) m c) (hl : news.length = m * size) (hnews : W.heap[g]? = Option.some (.cells news.toArray e (0, 0))) (h1 : news.all (·.oneCell') = true)
    (hbytes : (n + m) * bytes ≤ 140737488355328) (h63 : n + m ≤ 140737488355328)
    (h : ∀ ao' cap' W', OffR W' e size (.slice ao' (n + m) cap') (n + m) (xs ++ news) → Upd (fun k => v.ownBlock = Option.some k) W W' → Fresh W v (.slice ao' (n + m) cap') → wpList P ops Q rest (a.put o.dst (.slice ao' (n + m) cap')) W') : wpList P ops Q (o :: rest) a W :=
  wpList_plain hgd fun _ hK => by
    obtain ⟨ao', cap', W', hr, h2, h3, h4⟩ := run_app_off (P := P) hext t o.type i z size bytes ht hi hz hsize hby hzs hsz v n xs hown ⟨g, 0, none⟩ m c news hm hl
      (fun j u hu => by rw [Addr.add_lit, Nat.zero_add, blk_cell hnews]; simpa using hu) (fun u hu => List.all_eq_true.1 h1 u hu) hbytes h63
    unfold Oper.wp execOp
    simp only [ho, resolve, invoke, builtin, Sem.run_bind, Sem.run_pure, Result.andThen_ok, List.map_toArray, List.map_cons, List.map_nil, hs, hx, hr]
    exact hK _ _ (h ao' cap' W' h2 h3 h4)
end
end Go.Proofs.Ytijmbpokglohbaa

namespace Go.Proofs.Ytijmbpokglohbaa
open Go.RowKit
set_option linter.unusedSimpArgs false
set_option linter.unusedVariables false
theorem trn_at {s x : Bs} {k j : Nat} (hj : j + k + 1 = (cutL s).length) (hx : (cutL s)[j]? = some x) : (trn s)[k]? = some (smS x) := by
  unfold trn
  rw [List.getElem?_reverse (by simp; omega), List.length_map, List.getElem?_map]
  have : (cutL s).length - 1 - k = j := by omega
  rw [this, hx]; rfl
theorem trn_size (s : Bs) : (trn s).length = (cutL s).length := by simp [trn]
theorem lbl_le {s x : Bs} {j : Nat} (h : cutB s = true) (hx : (cutL s)[j]? = some x) : x.length ≤ 63 := by
  have h2 := (lab_jn s _ (cut_lab h).2).2
  rw [List.all_eq_true] at h2
  exact (lblOk_iff.1 (h2 x (List.mem_of_getElem? hx))).2
theorem take_eq {L M : List Bs} {k : Nat} {x : Bs} (h : L.take k = M.take k) (hx : L[k]? = some x) (hy : M[k]? = some x) : L.take (k + 1) = M.take (k + 1) := by
  rw [List.take_add_one, List.take_add_one, h, hx, hy]
theorem und_no {n t : Bs} {k : Nat} {x y : Bs} (hx : (trn n)[k]? = some x) (hy : (trn t)[k]? = some y) (hk : k < (trn t).length) (h : x ≠ y) : undB n t = false := by
  unfold undB
  have : ((trn n).take (trn t).length == trn t) = false := by
    rw [beq_eq_false_iff_ne]
    intro e
    have h1 : ((trn n).take (trn t).length)[k]? = some x := by rw [List.getElem?_take, if_pos hk]; exact hx
    rw [e, hy] at h1
    injection h1 with h1
    exact h h1.symm
  rw [this]; simp
theorem und_yes {n t : Bs} (hn : cutB n = true) (ht : cutB t = true) {k : Nat} (h : (trn n).take k = (trn t).take k) (hk : (trn t).length ≤ k) (hl : (trn t).length ≤ (trn n).length) : undB n t = true := by
  have h2 : (trn n).take (trn t).length = trn t := by
    have := congrArg (fun l => l.take (trn t).length) h
    simp only [List.take_take] at this
    rw [Nat.min_eq_left hk, List.take_of_length_le (Nat.le_refl _)] at this
    exact this
  unfold undB
  rw [hn, ht, decide_eq_true hl, h2]; simp
set_option maxRecDepth 100000 in
set_option maxHeartbeats 4000000 in
theorem runder_w (n t : Bs) (hn : n.length ≤ 70000) (ht : t.length ≤ 70000) (w : World) : Calls Try.prog 26 #[.string ⟨n.toArray⟩, .string ⟨t.toArray⟩] w (Rets fun r w' => r = .bool (undB n t) ∧ Upd0 w w') := by
  have hA := Lib.hid (fun w => rcut_any n (by unfold maxLen; omega) w)
  have hB := Lib.hid (fun w => rcut_any t (by unfold maxLen; omega) w)
  cases hcn : cutB n with
  | false =>
    have e : undB n t = false := by simp [undB, hcn]
    rw [e]
    rw [hcn] at hA
    clear e hcn
    go_enter Try.func26, Try.ntmps26
    go_wp2_with (first
      | (go_at_call 55; (with_reducible refine (hA.out _).use ?_); rintro v w1 ⟨a1, ca1, rfl, ho1, hu1⟩; have h1h := Lib.hid ho1; clear ho1)
      | (go_at_call 55; (with_reducible refine (hB.out _).use ?_); rintro v w2 ⟨a2, ca2, rfl, ho2, hu2⟩; have h2h := Lib.hid ho2; clear ho2)
      | (with_reducible refine wp_serial (by kernel_rfl) (by kernel_rfl) (by repeat with_reducible (first | apply NoBad.then | apply NoBad.inBlock | apply NoBad.jump | exact NoBad.rets)) ?_) | fail)
    all_goals go_returns
    all_goals exact ⟨rfl, (by repeat first | with_reducible (first | exact Upd.refl _ _ | assumption | apply Upd.drew | apply Upd.alloc) | refine Upd0.tr ?_ (by with_reducible assumption) | refine Upd.setCell ?_ (fun h => absurd h (by first | exact Nat.lt_irrefl _ | (simp only []; omega))) _)⟩
  | true =>
    rw [hcn] at hA
    cases hct : cutB t with
    | false =>
      have e : undB n t = false := by simp [undB, hct]
      rw [e]
      rw [hct] at hB
      clear e hcn hct
      have tk1 : True := trivial
      go_enter Try.func26, Try.ntmps26
      go_wp2_with (first
        | (go_at_call 55; have _t := tk1; clear tk1 _t; (with_reducible refine (hA.out _).use ?_); rintro v w1 ⟨a1, ca1, rfl, ho1, hu1⟩; have h1h := Lib.hid ho1; clear ho1)
        | (go_at_call 55; (with_reducible refine (hB.out _).use ?_); rintro v w2 ⟨a2, ca2, rfl, ho2, hu2⟩; have h2h := Lib.hid ho2; clear ho2)
        | (with_reducible refine wp_serial (by kernel_rfl) (by kernel_rfl) (by repeat with_reducible (first | apply NoBad.then | apply NoBad.inBlock | apply NoBad.jump | exact NoBad.rets)) ?_) | fail)
      all_goals go_returns
      all_goals exact ⟨rfl, (by repeat first | with_reducible (first | exact Upd.refl _ _ | assumption | apply Upd.drew | apply Upd.alloc) | refine Upd0.tr ?_ (by with_reducible assumption) | refine Upd.setCell ?_ (fun h => absurd h (by first | exact Nat.lt_irrefl _ | (simp only []; omega))) _)⟩
    | true =>
      rw [hct] at hB
      have hlab1 := Lib.hid (fun (j : Nat) (x : Bs) (hx : (cutL n)[j]? = some x) => lbl_le hcn hx)
      have hlab2 := Lib.hid (fun (j : Nat) (x : Bs) (hx : (cutL t)[j]? = some x) => lbl_le hct hx)
      have hl1 : (cutL n).length ≤ 70000 := by have := trn_len n; rw [trn_size] at this; omega
      have hl2 : (cutL t).length ≤ 70000 := by have := trn_len t; rw [trn_size] at this; omega
      have hno := Lib.hid (fun (k : Nat) (x y : Bs) (hx : (trn n)[k]? = some x) (hy : (trn t)[k]? = some y) (hk : k < (cutL t).length) (h : x ≠ y) => und_no hx hy (by rw [trn_size]; exact hk) h)
      have hyes := Lib.hid (fun (k : Nat) (h : (trn n).take k = (trn t).take k) (hk : (cutL t).length ≤ k) (hl : (cutL t).length ≤ (cutL n).length) => und_yes hcn hct h (by rw [trn_size]; exact hk) (by rw [trn_size, trn_size]; exact hl))
      have ha1 := Lib.hid (fun (k j : Nat) (x : Bs) (hj : j + k + 1 = (cutL n).length) (hx : (cutL n)[j]? = some x) => trn_at hj hx)
      have ha2 := Lib.hid (fun (k j : Nat) (x : Bs) (hj : j + k + 1 = (cutL t).length) (hx : (cutL t)[j]? = some x) => trn_at hj hx)
      have hlt : (cutL n).length < (cutL t).length → undB n t = false := fun h => by
        unfold undB
        rw [decide_eq_false (by rw [trn_size, trn_size]; omega)]; simp
      have hlth := Lib.hid hlt
      clear hlt hcn hct
      obtain ⟨P, hP⟩ : ∃ P, trn n = P := ⟨_, rfl⟩
      obtain ⟨R, hR⟩ : ∃ R, trn t = R := ⟨_, rfl⟩
      rw [hP, hR] at hno hyes
      rw [hP] at ha1
      rw [hR] at ha2
      obtain ⟨u, hu⟩ : ∃ u, undB n t = u := ⟨_, rfl⟩
      rw [hu] at hno hyes hlth ⊢
      obtain ⟨L, hL⟩ : ∃ L, cutL n = L := ⟨_, rfl⟩
      obtain ⟨M, hM⟩ : ∃ M, cutL t = M := ⟨_, rfl⟩
      rw [hL] at hA hlab1 hl1 hyes ha1 hlth
      rw [hM] at hB hlab2 hl2 hyes ha2 hno hlth
      clear hL hM hu hP hR
      by_cases hlm : L.length < M.length
      · have e := hlth.out hlm
        subst e
        have tk1 : True := trivial
        go_enter Try.func26, Try.ntmps26
        go_wp2_with (first
          | (go_at_call 55; have _t := tk1; clear tk1 _t; (with_reducible refine (hA.out _).use ?_); rintro v w1 ⟨a1, ca1, rfl, ho1, hu1⟩; have h1h := Lib.hid ho1; clear ho1)
          | (go_at_call 55; (with_reducible refine (hB.out _).use ?_); rintro v w2 ⟨a2, ca2, rfl, ho2, hu2⟩; have h2h := Lib.hid ho2; clear ho2)
          | (with_reducible refine wp_serial (by kernel_rfl) (by kernel_rfl) (by repeat with_reducible (first | apply NoBad.then | apply NoBad.inBlock | apply NoBad.jump | exact NoBad.rets)) ?_) | fail)
        all_goals go_returns
        all_goals exact ⟨rfl, (by repeat first | with_reducible (first | exact Upd.refl _ _ | assumption | apply Upd.drew | apply Upd.alloc) | refine Upd0.tr ?_ (by with_reducible assumption) | refine Upd.setCell ?_ (fun h => absurd h (by first | exact Nat.lt_irrefl _ | (simp only []; omega))) _)⟩
      · have hlm2 : M.length ≤ L.length := by omega
        have tk1 : True := trivial
        clear hlth
        go_enter Try.func26, Try.ntmps26
        go_wp2_with (first
          | (go_at_call 55; have _t := tk1; clear tk1 _t; (with_reducible refine (hA.out _).use ?_); rintro v w1 ⟨a1, ca1, rfl, ho1, hu1⟩; have h1h := Lib.hid (own_sr ho1 rfl); clear ho1)
          | (go_at_call 55; (with_reducible refine (hB.out _).use ?_); rintro v w2 ⟨a2, ca2, rfl, ho2, hu2⟩; have h2h := Lib.hid (own_sr ho2 rfl); have h1i := Lib.hid (h1h.out.up (show Upd0 w1 w2 from (by repeat first | with_reducible (first | exact Upd.refl _ _ | assumption | apply Upd.drew | apply Upd.alloc) | refine Upd0.tr ?_ (by with_reducible assumption) | refine Upd.setCell ?_ (fun h => absurd h (by first | exact Nat.lt_irrefl _ | (simp only []; omega))) _))); clear ho2)
          | (with_reducible refine wp_serial (by kernel_rfl) (by kernel_rfl) (by repeat with_reducible (first | apply NoBad.then | apply NoBad.inBlock | apply NoBad.jump | exact NoBad.rets)) ?_) | fail)
        go_loopw [9] (fun jj wr => ∃ k : Nat, k ≤ M.length ∧ jj = .int .i64 k ∧ Upd0 w2 wr ∧ Hid (P.take k = R.take k)) (fun jj _ => M.length - (intOf jj).toNat)
        case atStart => exact ⟨0, Nat.zero_le _, rfl, Upd.refl _ _, Lib.hid rfl⟩
        case round =>
          obtain ⟨k, hk, rfl, hu, htk⟩ := hrel
          by_cases hlt : k < M.length
          · obtain ⟨j1, hj1⟩ : ∃ j1, j1 + k + 1 = L.length := ⟨L.length - 1 - k, by omega⟩
            obtain ⟨j2, hj2⟩ : ∃ j2, j2 + k + 1 = M.length := ⟨M.length - 1 - k, by omega⟩
            obtain ⟨x, hx⟩ : ∃ x, L[j1]? = some x := ⟨L[j1], List.getElem?_eq_getElem (by omega)⟩
            obtain ⟨y, hy⟩ : ∃ y, M[j2]? = some y := ⟨M[j2], List.getElem?_eq_getElem (by omega)⟩
            obtain ⟨g1, o1, rfl, hg1, hcs1⟩ := (h1i.out.up hu).some (show j1 < L.length by omega)
            have c1 := hcs1 j1 x hx
            obtain ⟨g2, o2, rfl, hg2, hcs2⟩ := (h2h.out.up hu).some (show j2 < M.length by omega)
            have c2 := hcs2 j2 y hy
            have p1 := Lib.hid (ha1.out k j1 x hj1 hx)
            have p2 := Lib.hid (ha2.out k j2 y hj2 hy)
            have S1 := Lib.hid (rsmall_w x (by have := hlab1.out j1 x hx; omega))
            have S2 := Lib.hid (rsmall_w y (by have := hlab2.out j2 y hy; omega))
            have i1 : (L.length : Int) - 1 - k = j1 := by omega
            have i2 : (M.length : Int) - 1 - k = j2 := by omega
            have b1 : j1 < L.length := by omega
            have b2 : j2 < M.length := by omega
            have b3 : 1 ≤ L.length := by omega
            have b4 : 1 ≤ M.length := by omega
            have b5 : k ≤ L.length - 1 := by omega
            have b6 : k ≤ M.length - 1 := by omega
            obtain ⟨X, hX⟩ : ∃ X, smS x = X := ⟨_, rfl⟩
            obtain ⟨Y, hY⟩ : ∃ Y, smS y = Y := ⟨_, rfl⟩
            rw [hX] at S1 p1
            rw [hY] at S2 p2
            clear hcs1 hcs2 hx hy hX hY hj1 hj2
            have tk1 : True := trivial
            by_cases h0 : X = Y
            · subst h0
              have hst := Lib.hid (take_eq htk.out p1.out p2.out)
              go_wp2_with (first
                | (go_at_call 56; have _t := tk1; clear tk1 _t; (with_reducible refine (S1.out _).use ?_); rintro v w3 ⟨rfl, hu3⟩)
                | (go_at_call 56; (with_reducible refine (S2.out _).use ?_); rintro v w4 ⟨rfl, hu4⟩)
                | (refine And.intro hu3.ext ?_) | (refine And.intro hu4.ext ?_)
                | (with_reducible refine SL.wp_serial3_2 58 [9] [0, 1, 2, 3, 4, 5, 6, 7, 9, 10, 11, 12, 13, 14, 15, 16] 8 [] 17 [18] [_, _, _, _, _, _, _, _, _, _, _, _, _, _, _, _] _ [] _ [_] (by kernel_rfl) (by decide +kernel) rfl rfl rfl rfl rfl (by refine ⟨by first | decide | simp, fun s hs => ?_⟩; simp only [List.mem_cons, List.not_mem_nil, or_false] at hs; rcases hs with rfl <;> first | rfl | simp [go_sem, SL.isI, Act.eval]) (by repeat with_reducible (first | apply NoBad.then | apply NoBad.inBlock | apply NoBad.jump | exact NoBad.rets)) ?_)
                | (with_reducible refine wp_serial (by kernel_rfl) (by kernel_rfl) (by repeat with_reducible (first | apply NoBad.then | apply NoBad.inBlock | apply NoBad.jump | exact NoBad.rets)) ?_) | fail)
              go_roundw
              case rel => exact ⟨k + 1, by omega, by go_num, (by repeat first | with_reducible (first | exact Upd.refl _ _ | assumption | apply Upd.drew | apply Upd.alloc) | refine Upd0.tr ?_ (by with_reducible assumption) | refine Upd.setCell ?_ (fun h => absurd h (by first | exact Nat.lt_irrefl _ | (simp only []; omega))) _), hst⟩
              case measure => simp [intOf]; omega
            · have hst := Lib.hid (hno.out k X Y p1.out p2.out hlt h0)
              have hbq : (X == Y) = false := beq_eq_false_iff_ne.2 h0
              go_wp2_with (first
                | (go_at_call 56; have _t := tk1; clear tk1 _t; (with_reducible refine (S1.out _).use ?_); rintro v w3 ⟨rfl, hu3⟩)
                | (go_at_call 56; (with_reducible refine (S2.out _).use ?_); rintro v w4 ⟨rfl, hu4⟩)
                | (refine And.intro hu3.ext ?_) | (refine And.intro hu4.ext ?_)
                | (with_reducible refine SL.wp_serial3_2 58 [9] [0, 1, 2, 3, 4, 5, 6, 7, 9, 10, 11, 12, 13, 14, 15, 16] 8 [] 17 [18] [_, _, _, _, _, _, _, _, _, _, _, _, _, _, _, _] _ [] _ [_] (by kernel_rfl) (by decide +kernel) rfl rfl rfl rfl rfl (by refine ⟨by first | decide | simp, fun s hs => ?_⟩; simp only [List.mem_cons, List.not_mem_nil, or_false] at hs; rcases hs with rfl <;> first | rfl | simp [go_sem, SL.isI, Act.eval]) (by repeat with_reducible (first | apply NoBad.then | apply NoBad.inBlock | apply NoBad.jump | exact NoBad.rets)) ?_)
                | (with_reducible refine wp_serial (by kernel_rfl) (by kernel_rfl) (by repeat with_reducible (first | apply NoBad.then | apply NoBad.inBlock | apply NoBad.jump | exact NoBad.rets)) ?_) | fail)
              all_goals go_returns
              all_goals exact ⟨by rw [hst.out]; rfl, (by repeat first | with_reducible (first | exact Upd.refl _ _ | assumption | apply Upd.drew | apply Upd.alloc) | refine Upd0.tr ?_ (by with_reducible assumption) | refine Upd.setCell ?_ (fun h => absurd h (by first | exact Nat.lt_irrefl _ | (simp only []; omega))) _)⟩
          · have hst := Lib.hid (hyes.out k htk.out (by omega) hlm2)
            go_wp2_with (first | (with_reducible refine wp_serial (by kernel_rfl) (by kernel_rfl) (by repeat with_reducible (first | apply NoBad.then | apply NoBad.inBlock | apply NoBad.jump | exact NoBad.rets)) ?_) | fail)
            all_goals go_returns
            all_goals exact ⟨by rw [hst.out]; rfl, (by repeat first | with_reducible (first | exact Upd.refl _ _ | assumption | apply Upd.drew | apply Upd.alloc) | refine Upd0.tr ?_ (by with_reducible assumption) | refine Upd.setCell ?_ (fun h => absurd h (by first | exact Nat.lt_irrefl _ | (simp only []; omega))) _)⟩
end Go.Proofs.Ytijmbpokglohbaa
