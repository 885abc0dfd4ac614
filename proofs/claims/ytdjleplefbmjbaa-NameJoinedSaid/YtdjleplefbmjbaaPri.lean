/-
  A name's text, plainly: printed, parsed; the program's reading and the document's tell the same.
-/
import Derived.Test.YtdjleplefbmjbaaOrd
namespace Go.Proofs.Ytdjleplefbmjbaa
set_option linter.unusedSimpArgs false
set_option linter.unusedVariables false
def dig (n : Nat) : UInt8 := UInt8.ofNat (48 + n)
def esc (c : UInt8) : Bs := if c = 46 ∨ c = 92 then [92, c] else if c.toNat < 33 ∨ 126 < c.toNat then [92, dig (c.toNat / 100), dig (c.toNat / 10 % 10), dig (c.toNat % 10)] else [c]
def txt (x : Bs) : Bs := x.flatMap esc
def lbls (L : List Bs) : Bs := L.flatMap fun x => txt x ++ [46]
def prnL (L : List Bs) : Bs := if L = [] then [46] else lbls L
def prnS (s : Bs) : Bs := if cutB s then prnL (cutL s) else []
def prnC (s : Bs) : Int := if cutB s then 0 else 1
theorem txt_cons (c : UInt8) (x : Bs) : txt (c :: x) = esc c ++ txt x := rfl
theorem txt_app (a b : Bs) : txt (a ++ b) = txt a ++ txt b := by simp [txt]
theorem lbls_cons (x : Bs) (L : List Bs) : lbls (x :: L) = txt x ++ 46 :: lbls L := by simp [lbls]
theorem lbls_app (a b : List Bs) : lbls (a ++ b) = lbls a ++ lbls b := by simp [lbls]
theorem esc_len (c : UInt8) : 1 ≤ (esc c).length ∧ (esc c).length ≤ 4 := by unfold esc; split; simp; split <;> simp
theorem txt_len : ∀ x : Bs, x.length ≤ (txt x).length ∧ (txt x).length ≤ 4 * x.length
  | [] => by simp [txt]
  | c :: x => by
    have := txt_len x
    have := esc_len c
    rw [txt_cons]; simp only [List.length_append, List.length_cons]; omega
theorem lbls_len2 : ∀ L : List Bs, (lbls L).length ≤ 4 * (jn L).length
  | [] => by simp [lbls, jn]
  | x :: L => by
    have := lbls_len2 L
    have := txt_len x
    rw [lbls_cons, jn_cons]; simp only [List.length_append, List.length_cons]; omega
def isD (d : UInt8) : Bool := decide (48 ≤ d.toNat) && decide (d.toNat ≤ 57)
/-- the first byte of a text, how many bytes that takes (0: none fits), whether it ends a label -/
def nxE : Bs → UInt8 × Nat × Bool
  | [] => (0, 0, false)
  | y :: r => if y = 46 ∨ y = 92 then (y, 2, false) else match r with
    | a :: b :: _ => if isD y && isD a && isD b && decide (100 * (y.toNat - 48) + 10 * (a.toNat - 48) + (b.toNat - 48) ≤ 255) then (UInt8.ofNat (100 * (y.toNat - 48) + 10 * (a.toNat - 48) + (b.toNat - 48)), 4, false) else (0, 0, false)
    | _ => (0, 0, false)
def nx : Bs → UInt8 × Nat × Bool
  | [] => (0, 0, false)
  | x :: t => if x = 46 then (46, 1, true) else if x = 92 then nxE t else (x, 1, false)
theorem nx_cons (x : UInt8) (t : Bs) : nx (x :: t) = if x = 46 then (46, 1, true) else if x = 92 then nxE t else (x, 1, false) := rfl
theorem nxE_cons (y : UInt8) (r : Bs) : nxE (y :: r) = if y = 46 ∨ y = 92 then (y, 2, false) else match r with
    | a :: b :: _ => if isD y && isD a && isD b && decide (100 * (y.toNat - 48) + 10 * (a.toNat - 48) + (b.toNat - 48) ≤ 255) then (UInt8.ofNat (100 * (y.toNat - 48) + 10 * (a.toNat - 48) + (b.toNat - 48)), 4, false) else (0, 0, false)
    | _ => (0, 0, false) := rfl
theorem nx_dot (r : Bs) : nx (46 :: r) = (46, 1, true) := rfl
theorem nx_esc (c : UInt8) (r : Bs) : nx (esc c ++ r) = (c, (esc c).length, false) := by
  unfold esc
  split
  · rename_i h
    rcases h with rfl | rfl <;> rfl
  · rename_i h
    split
    · have hc := c.toNat_lt
      have hs : 100 * (c.toNat / 100) + 10 * (c.toNat / 10 % 10) + c.toNat % 10 = c.toNat := by omega
      have hA : c.toNat / 100 ≤ 2 := by omega
      have hB : c.toNat / 10 % 10 ≤ 9 := by omega
      have hC : c.toNat % 10 ≤ 9 := by omega
      generalize c.toNat / 100 = A at *
      generalize c.toNat / 10 % 10 = B at *
      generalize c.toNat % 10 = C at *
      have e1 : (dig A).toNat = 48 + A := by rw [dig, UInt8.toNat_ofNat']; omega
      have e2 : (dig B).toNat = 48 + B := by rw [dig, UInt8.toNat_ofNat']; omega
      have e3 : (dig C).toNat = 48 + C := by rw [dig, UInt8.toNat_ofNat']; omega
      have n1 : ¬ (dig A = 46 ∨ dig A = 92) := by
        rintro (h' | h')
        · rw [h'] at e1; have : (46 : UInt8).toNat = 46 := rfl; omega
        · rw [h'] at e1; have : (92 : UInt8).toNat = 92 := rfl; omega
      rw [List.cons_append, nx_cons, if_neg (by decide), if_pos rfl]
      simp only [List.cons_append, List.nil_append]
      rw [nxE_cons, if_neg n1]
      simp only [isD, e1, e2, e3]
      rw [if_pos (by simp only [Bool.and_eq_true, decide_eq_true_eq]; omega)]
      have e : UInt8.ofNat (100 * (48 + A - 48) + 10 * (48 + B - 48) + (48 + C - 48)) = c := by
        apply UInt8.toNat_inj.1; rw [UInt8.toNat_ofNat']; omega
      rw [e]; rfl
    · rw [List.cons_append, nx_cons, if_neg (fun e => h (.inl e)), if_neg (fun e => h (.inr e))]; rfl
theorem nx_pos (s : Bs) : (nx s).2.1 ≤ s.length := by
  cases s with
  | nil => simp [nx]
  | cons x t =>
    rw [nx_cons]
    split
    · simp
    · split
      · cases t with
        | nil => simp [nxE]
        | cons y r =>
          rw [nxE_cons]
          split
          · simp
          · split
            · split <;> simp
            · simp
      · simp
/-- the labels that the program reads -/
def parF : Nat → Bs → Bs → Option (List Bs)
  | _, [], _ => some []
  | 0, _ :: _, _ => none
  | f + 1, x :: t, lbl =>
    if (nx (x :: t)).2.1 = 0 then none
    else if (nx (x :: t)).2.2 then (parF f ((x :: t).drop (nx (x :: t)).2.1) []).map (lbl :: ·)
    else parF f ((x :: t).drop (nx (x :: t)).2.1) (lbl ++ [(nx (x :: t)).1])
theorem parF_more : ∀ (f g : Nat) (s lbl : Bs), s.length ≤ f → s.length ≤ g → parF f s lbl = parF g s lbl := by
  intro f
  induction f with
  | zero =>
    intro g s lbl h1 h2
    have : s = [] := List.eq_nil_of_length_eq_zero (by omega)
    subst this
    cases g <;> rfl
  | succ f ih =>
    intro g s lbl h1 h2
    cases s with
    | nil => cases g <;> rfl
    | cons x t =>
      cases g with
      | zero => simp at h2
      | succ g =>
        simp only [parF]
        by_cases h0 : (nx (x :: t)).2.1 = 0
        · rw [if_pos h0, if_pos h0]
        · rw [if_neg h0, if_neg h0]
          simp only [List.length_cons] at h1 h2
          have hd : ((x :: t).drop (nx (x :: t)).2.1).length ≤ t.length := by
            simp only [List.length_drop, List.length_cons]; omega
          rw [ih g _ [] (by omega) (by omega), ih g _ (lbl ++ [(nx (x :: t)).1]) (by omega) (by omega)]
def parP (s lbl : Bs) : Option (List Bs) := parF s.length s lbl
theorem parP_nil (lbl : Bs) : parP [] lbl = some [] := rfl
theorem parP_step {s : Bs} (lbl : Bs) (h : s ≠ []) : parP s lbl = if (nx s).2.1 = 0 then none else if (nx s).2.2 then (parP (s.drop (nx s).2.1) []).map (lbl :: ·) else parP (s.drop (nx s).2.1) (lbl ++ [(nx s).1]) := by
  cases s with
  | nil => exact absurd rfl h
  | cons x t =>
    unfold parP
    show parF (t.length + 1) (x :: t) lbl = _
    simp only [parF]
    by_cases h0 : (nx (x :: t)).2.1 = 0
    · rw [if_pos h0, if_pos h0]
    · rw [if_neg h0, if_neg h0]
      have hd : ((x :: t).drop (nx (x :: t)).2.1).length ≤ t.length := by
        simp only [List.length_drop, List.length_cons]; omega
      rw [parF_more t.length ((x :: t).drop (nx (x :: t)).2.1).length _ [] hd (Nat.le_refl _), parF_more t.length ((x :: t).drop (nx (x :: t)).2.1).length _ (lbl ++ [(nx (x :: t)).1]) hd (Nat.le_refl _)]
theorem parP_txt : ∀ (x lbl r : Bs), parP (txt x ++ 46 :: r) lbl = (parP r []).map ((lbl ++ x) :: ·)
  | [], lbl, r => by
    show parP (46 :: r) lbl = _
    rw [parP_step lbl (by simp), nx_dot]; simp
  | c :: x, lbl, r => by
    have hl := (esc_len c).1
    have hne : txt (c :: x) ++ 46 :: r ≠ [] := by
      intro h; have := congrArg List.length h; rw [txt_cons] at this; simp at this
    rw [parP_step lbl hne, txt_cons, List.append_assoc, nx_esc, if_neg (by simp only; omega)]
    simp only [Bool.false_eq_true, if_false, List.drop_left]
    rw [parP_txt x (lbl ++ [c]) r, List.append_assoc]; rfl
theorem parP_lbls : ∀ L : List Bs, parP (lbls L) [] = some L
  | [] => rfl
  | x :: L => by rw [lbls_cons, parP_txt, parP_lbls L]; simp
/-- the labels that the document's reading finds -/
def numR (a b c : UInt8) : UInt8 := UInt8.ofNat ((100 * ((a.toNat : Int) - 48) + 10 * ((b.toNat : Int) - 48) + (c.toNat : Int) - 48) % 256).toNat
def rxE : Bs → Option UInt8 × Nat
  | [] => (some 92, 1)
  | y :: r => if y = 46 ∨ y = 92 then (some y, 2) else match r with
    | a :: b :: _ => (some (numR y a b), 4)
    | _ => (some 92, 1)
def rx : Bs → Option UInt8 × Nat
  | [] => (none, 1)
  | x :: t => if x = 46 then (none, 1) else if x = 92 then rxE t else (some x, 1)
theorem rx_cons (x : UInt8) (t : Bs) : rx (x :: t) = if x = 46 then (none, 1) else if x = 92 then rxE t else (some x, 1) := rfl
theorem rxE_cons (y : UInt8) (r : Bs) : rxE (y :: r) = if y = 46 ∨ y = 92 then (some y, 2) else match r with
    | a :: b :: _ => (some (numR y a b), 4)
    | _ => (some 92, 1) := rfl
theorem rx_pos (s : Bs) : 1 ≤ (rx s).2 := by
  cases s with
  | nil => simp [rx]
  | cons x t =>
    rw [rx_cons]
    split
    · simp
    · split
      · cases t with
        | nil => simp [rxE]
        | cons y r =>
          rw [rxE_cons]
          split
          · simp
          · split <;> simp
      · simp
def rarF : Nat → Bs → Bs → List Bs
  | _, [], _ => []
  | 0, _ :: _, _ => []
  | f + 1, x :: t, lbl => match (rx (x :: t)).1 with
    | none => lbl :: rarF f ((x :: t).drop (rx (x :: t)).2) []
    | some c => rarF f ((x :: t).drop (rx (x :: t)).2) (lbl ++ [c])
theorem rarF_more : ∀ (f g : Nat) (s lbl : Bs), s.length ≤ f → s.length ≤ g → rarF f s lbl = rarF g s lbl := by
  intro f
  induction f with
  | zero =>
    intro g s lbl h1 h2
    have : s = [] := List.eq_nil_of_length_eq_zero (by omega)
    subst this
    cases g <;> rfl
  | succ f ih =>
    intro g s lbl h1 h2
    cases s with
    | nil => cases g <;> rfl
    | cons x t =>
      cases g with
      | zero => simp at h2
      | succ g =>
        simp only [List.length_cons] at h1 h2
        have hp := rx_pos (x :: t)
        have hd : ((x :: t).drop (rx (x :: t)).2).length ≤ t.length := by
          simp only [List.length_drop, List.length_cons]; omega
        simp only [rarF]
        rw [ih g _ [] (by omega) (by omega)]
        split
        · rfl
        · exact ih g _ _ (by omega) (by omega)
def parR (s lbl : Bs) : List Bs := rarF s.length s lbl
theorem parR_nil (lbl : Bs) : parR [] lbl = [] := rfl
theorem parR_step {s : Bs} (lbl : Bs) (h : s ≠ []) : parR s lbl = match (rx s).1 with | none => lbl :: parR (s.drop (rx s).2) [] | some c => parR (s.drop (rx s).2) (lbl ++ [c]) := by
  cases s with
  | nil => exact absurd rfl h
  | cons x t =>
    have hp := rx_pos (x :: t)
    have hd : ((x :: t).drop (rx (x :: t)).2).length ≤ t.length := by
      simp only [List.length_drop, List.length_cons]; omega
    unfold parR
    show rarF (t.length + 1) (x :: t) lbl = _
    simp only [rarF]
    split
    · rename_i e
      rw [rarF_more t.length ((x :: t).drop (rx (x :: t)).2).length _ [] hd (Nat.le_refl _)]
    · rename_i c e
      rw [rarF_more t.length ((x :: t).drop (rx (x :: t)).2).length _ _ hd (Nat.le_refl _)]
theorem rx_esc (c : UInt8) (r : Bs) : rx (esc c ++ r) = (some c, (esc c).length) := by
  unfold esc
  split
  · rename_i h
    rcases h with rfl | rfl <;> rfl
  · rename_i h
    split
    · have hc := c.toNat_lt
      have hs : 100 * (c.toNat / 100) + 10 * (c.toNat / 10 % 10) + c.toNat % 10 = c.toNat := by omega
      have hA : c.toNat / 100 ≤ 2 := by omega
      have hB : c.toNat / 10 % 10 ≤ 9 := by omega
      have hC : c.toNat % 10 ≤ 9 := by omega
      generalize c.toNat / 100 = A at *
      generalize c.toNat / 10 % 10 = B at *
      generalize c.toNat % 10 = C at *
      have e1 : (dig A).toNat = 48 + A := by rw [dig, UInt8.toNat_ofNat']; omega
      have e2 : (dig B).toNat = 48 + B := by rw [dig, UInt8.toNat_ofNat']; omega
      have e3 : (dig C).toNat = 48 + C := by rw [dig, UInt8.toNat_ofNat']; omega
      have n1 : ¬ (dig A = 46 ∨ dig A = 92) := by
        rintro (h' | h')
        · rw [h'] at e1; have : (46 : UInt8).toNat = 46 := rfl; omega
        · rw [h'] at e1; have : (92 : UInt8).toNat = 92 := rfl; omega
      have en : numR (dig A) (dig B) (dig C) = c := by
        apply UInt8.toNat_inj.1
        rw [numR, e1, e2, e3, UInt8.toNat_ofNat']; omega
      rw [List.cons_append, rx_cons, if_neg (by decide), if_pos rfl]
      simp only [List.cons_append, List.nil_append]
      rw [rxE_cons, if_neg n1]
      show (some (numR (dig A) (dig B) (dig C)), 4) = _
      rw [en]; rfl
    · rw [List.cons_append, rx_cons, if_neg (fun e => h (.inl e)), if_neg (fun e => h (.inr e))]; rfl
theorem parR_txt : ∀ (x lbl r : Bs), parR (txt x ++ 46 :: r) lbl = (lbl ++ x) :: parR r []
  | [], lbl, r => by
    have hr : rx (46 :: r) = (none, 1) := rfl
    show parR (46 :: r) lbl = _
    rw [parR_step lbl (by simp), hr]; simp
  | c :: x, lbl, r => by
    have hne : txt (c :: x) ++ 46 :: r ≠ [] := by
      intro h; have := congrArg List.length h; rw [txt_cons] at this; simp at this
    rw [parR_step lbl hne, txt_cons, List.append_assoc, rx_esc]
    simp only [List.drop_left]
    rw [parR_txt x (lbl ++ [c]) r, List.append_assoc]; rfl
theorem parR_lbls : ∀ L : List Bs, parR (lbls L) [] = L
  | [] => rfl
  | x :: L => by rw [lbls_cons, parR_txt, parR_lbls L]; simp
/-- are labels a name, whose text is s? -/
def isTxt (L : List Bs) (s : Bs) : Bool := jnB L && (prnL L == s)
theorem jnB_cut {L : List Bs} (h : jnB L = true) : cutB (jn L) = true ∧ cutL (jn L) = L := by
  simp only [jnB, Bool.and_eq_true, decide_eq_true_eq] at h
  exact cut_of h.2 (jn_lab L h.1)
theorem prn_jn {L : List Bs} (h : jnB L = true) : prnS (jn L) = prnL L ∧ prnC (jn L) = 0 := by
  obtain ⟨h1, h2⟩ := jnB_cut h
  rw [prnS, prnC, h1, h2]; exact ⟨rfl, rfl⟩
def parO (s : Bs) : Option Bs := if s = [46] then some [] else match parP s [] with | none => none | some L => if isTxt L s then some (jn L) else none
def parO' (s : Bs) : Option Bs := if s = [46] then some [] else if 2000 < s.length then none else if isTxt (parR s []) s then some (jn (parR s [])) else none
theorem isTxt_lbls {L : List Bs} {s : Bs} (h : isTxt L s = true) (hs : s ≠ [46]) : s = lbls L ∧ jnB L = true ∧ s.length ≤ 2000 := by
  simp only [isTxt, Bool.and_eq_true, beq_iff_eq] at h
  obtain ⟨h1, h2⟩ := h
  have hL : L ≠ [] := by rintro rfl; rw [prnL, if_pos rfl] at h2; exact hs h2.symm
  rw [prnL, if_neg hL] at h2
  refine ⟨h2.symm, h1, ?_⟩
  have := lbls_len2 L
  simp only [jnB, Bool.and_eq_true, decide_eq_true_eq] at h1
  rw [← h2]; omega
theorem par_same (s : Bs) : parO' s = parO s := by
  unfold parO parO'
  by_cases hs : s = [46]
  · rw [if_pos hs, if_pos hs]
  rw [if_neg hs, if_neg hs]
  cases hR : isTxt (parR s []) s with
  | true =>
    obtain ⟨h1, h2, h3⟩ := isTxt_lbls hR hs
    have hp : parP s [] = some (parR s []) := by
      conv => lhs; rw [h1]
      exact parP_lbls _
    rw [hp, if_neg (by omega)]
    simp only [hR]
  | false =>
    have e : (if 2000 < s.length then none else if false = true then some (jn (parR s [])) else none) = (none : Option Bs) := by split <;> simp
    rw [e]
    cases hP : parP s [] with
    | none => rfl
    | some L =>
      simp only
      cases hL : isTxt L s with
      | false => rfl
      | true =>
        obtain ⟨h1, h2, h3⟩ := isTxt_lbls hL hs
        have : parR s [] = L := by rw [h1]; exact parR_lbls L
        rw [this, hL] at hR; cases hR
def parS (s : Bs) : Bs := (parO s).getD []
def parC (s : Bs) : Int := if (parO s).isSome then 0 else 2
/-- what is printed is parsed -/
theorem par_prn {n : Bs} (h : cutB n = true) : parS (prnS n) = n ∧ parC (prnS n) = 0 := by
  obtain ⟨h1, h2⟩ := cut_lab h
  obtain ⟨h3, h4⟩ := lab_jn n _ h2
  have hB : jnB (cutL n) = true := by rw [jnB, h4, h3, decide_eq_true h1]; rfl
  have hp : parO (prnS n) = some n := by
    rw [prnS, h, if_pos rfl, prnL]
    by_cases hL : cutL n = []
    · rw [if_pos hL, parO, if_pos rfl]
      rw [hL] at h3; rw [← h3]; rfl
    · rw [if_neg hL]
      have hs : lbls (cutL n) ≠ [46] := by
        intro e
        obtain ⟨x, L, hx⟩ := List.exists_cons_of_ne_nil hL
        rw [hx, lbls_cons] at e
        have := congrArg List.length e
        have h5 := (List.all_eq_true.1 h4) x (by rw [hx]; simp)
        have := (lblOk_iff.1 h5).1
        have := (txt_len x).1
        simp at *; omega
      rw [parO, if_neg hs, parP_lbls]
      have : isTxt (cutL n) (lbls (cutL n)) = true := by rw [isTxt, hB, prnL, if_neg hL]; simp
      simp only [this, if_true, h3]
  rw [parS, parC, hp]; exact ⟨rfl, rfl⟩
/-- what is parsed is printed to the same text -/
theorem prn_par {s n : Bs} (h : parO s = some n) : prnS n = s ∧ prnC n = 0 := by
  unfold parO at h
  by_cases hs : s = [46]
  · rw [if_pos hs] at h; cases h; subst hs; exact ⟨rfl, rfl⟩
  rw [if_neg hs] at h
  cases hP : parP s [] with
  | none => rw [hP] at h; cases h
  | some L =>
    rw [hP] at h
    simp only at h
    cases hL : isTxt L s with
    | false => rw [hL] at h; cases h
    | true =>
      rw [hL, if_pos rfl] at h; cases h
      simp only [isTxt, Bool.and_eq_true, beq_iff_eq] at hL
      rw [(prn_jn hL.1).1, (prn_jn hL.1).2]; exact ⟨hL.2, rfl⟩
end Go.Proofs.Ytdjleplefbmjbaa
