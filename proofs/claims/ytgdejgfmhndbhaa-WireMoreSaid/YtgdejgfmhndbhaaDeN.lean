/-
  Reading bytes that are cut off, or followed by others; plain.
-/
import Derived.Test.YtgdejgfmhndbhaaDeE
namespace Go.Proofs.Ytgdejgfmhndbhaa
set_option linter.unusedSimpArgs false
set_option linter.unusedVariables false
/-! ### bytes that are cut off, or followed by others -/
abbrev RM (α : Type) := Bs → Rk → α × Rk
structure Nice {α : Type} (F : RM α) : Prop where
  bad : ∀ s r, ¬ r.e = 0 → (F s r).2.e = r.e
  ext : ∀ s t r, r.p ≤ s.length → (F s r).2.e = 0 → F (s ++ t) r = F s r
  cut : ∀ s t r, r.p ≤ s.length → (F (s ++ t) r).2.e = 0 → F s r = F (s ++ t) r ∨ (F s r).2.e = 3
  pos : ∀ s r, r.p ≤ s.length → (F s r).2.e = 0 → (F s r).2.p ≤ s.length
def pur {α : Type} (a : α) : RM α := fun _ r => (a, r)
def bnd {α β : Type} (F : RM α) (G : α → RM β) : RM β := fun s r => G (F s r).1 s (F s r).2
theorem Nice.pur {α : Type} (a : α) : Nice (pur a) := ⟨fun _ _ _ => rfl, fun _ _ _ _ _ => rfl, fun _ _ _ _ _ => .inl rfl, fun _ _ h _ => h⟩
theorem Nice.e0 {α : Type} {F : RM α} (h : Nice F) {s : Bs} {r : Rk} (k : (F s r).2.e = 0) : r.e = 0 := by
  by_cases hr : r.e = 0
  · exact hr
  · rw [h.bad s r hr] at k; exact k
theorem Nice.e3 {α : Type} {F : RM α} (h : Nice F) {s : Bs} {r : Rk} (k : r.e = 3) : (F s r).2.e = 3 := by
  rw [h.bad s r (by rw [k]; decide), k]
theorem Nice.bnd {α β : Type} {F : RM α} {G : α → RM β} (h : Nice F) (k : ∀ a, Nice (G a)) : Nice (bnd F G) where
  bad s r hr := by
    show (G (F s r).1 s (F s r).2).2.e = r.e
    have := h.bad s r hr
    rw [(k _).bad s _ (by rw [this]; exact hr), this]
  ext s t r hp he := by
    have he' : (G (F s r).1 s (F s r).2).2.e = 0 := he
    have h1 := (k _).e0 he'
    show G (F (s ++ t) r).1 (s ++ t) (F (s ++ t) r).2 = G (F s r).1 s (F s r).2
    rw [h.ext s t r hp h1]
    exact (k _).ext s t _ (h.pos s r hp h1) he'
  cut s t r hp he := by
    have he' : (G (F (s ++ t) r).1 (s ++ t) (F (s ++ t) r).2).2.e = 0 := he
    have h1 := (k _).e0 he'
    show G (F s r).1 s (F s r).2 = G (F (s ++ t) r).1 (s ++ t) (F (s ++ t) r).2 ∨ (G (F s r).1 s (F s r).2).2.e = 3
    rcases h.cut s t r hp h1 with e | e
    · have h2 : (F s r).2.e = 0 := by rw [e]; exact h1
      have h3 := h.pos s r hp h2
      rw [← e] at he' ⊢
      exact (k _).cut s t _ h3 he'
    · exact .inr ((k _).e3 e)
  pos s r hp he := by
    have he' : (G (F s r).1 s (F s r).2).2.e = 0 := he
    exact (k _).pos s _ (h.pos s r hp ((k _).e0 he')) he'
def taM (n : Nat) : RM Bs := fun s r => (takS s r n, takR s r n)
theorem takO_app {s t : Bs} {r : Rk} {n : Nat} (h : takO s r n = true) : takS (s ++ t) r n = takS s r n ∧ takR (s ++ t) r n = takR s r n := by
  obtain ⟨h1, h2⟩ := takO_iff.1 h
  have h' : takO (s ++ t) r n = true := takO_iff.2 ⟨h1, by simp; omega⟩
  rw [takS, takS, takR, takR, if_pos h, if_pos h, if_pos h', if_pos h']
  refine ⟨?_, rfl⟩
  rw [List.drop_append_of_le_length (by omega), List.take_append_of_le_length (by simp; omega)]
theorem takR_no {s : Bs} {r : Rk} {n : Nat} (h : ¬ takO s r n = true) : takR s r n = r.want false 3 := by rw [takR, if_neg h]
theorem ta_nice (n : Nat) : Nice (taM n) where
  bad s r hr := by
    have hO : ¬ takO s r n = true := fun h => hr (takO_iff.1 h).1
    show (takR s r n).e = r.e
    rw [takR_no hO, Rk.want_bad hr]
  ext s t r hp he := by
    obtain ⟨h1, h2⟩ := takO_app (t := t) (takR_e he)
    exact Prod.ext h1 h2
  cut s t r hp he := by
    have hO := takR_e he
    obtain ⟨h1, h2⟩ := takO_iff.1 hO
    by_cases hs : takO s r n = true
    · left
      obtain ⟨h3, h4⟩ := takO_app (t := t) hs
      exact Prod.ext h3.symm h4.symm
    · right
      show (takR s r n).e = 3
      rw [takR_no hs, Rk.want_no h1]
  pos s r hp he := by
    have hO := takR_e he
    show (takR s r n).p ≤ s.length
    rw [takR, if_pos hO]
    exact (takO_iff.1 hO).2
def nuM (n : Nat) : RM Nat := fun s r => (nuN s r n, nuR s r n)
theorem nu_nice (n : Nat) : Nice (nuM n) := (ta_nice n).bnd fun l => Nice.pur (num l)
def waM (b : Bool) (x : Int) : RM Unit := fun _ r => ((), r.want b x)
theorem wa_nice (b : Bool) (x : Int) : Nice (waM b x) where
  bad s r hr := by show (r.want b x).e = r.e; rw [Rk.want_bad hr]
  ext s t r hp he := rfl
  cut s t r hp he := .inl rfl
  pos s r hp he := by show (r.want b x).p ≤ _; rw [Rk.want_p]; exact hp
def waL (n : Nat) : RM Unit := fun s r => ((), r.want (decide (r.p + n ≤ s.length)) 3)
theorem waL_nice (n : Nat) : Nice (waL n) where
  bad s r hr := by show (r.want _ _).e = r.e; rw [Rk.want_bad hr]
  ext s t r hp he := by
    obtain ⟨h1, h2⟩ := want_e (by decide) he
    have h2 := of_decide_eq_true h2
    show ((), r.want _ _) = ((), r.want _ _)
    rw [decide_eq_true h2, decide_eq_true (by simp; omega)]
  cut s t r hp he := by
    obtain ⟨h1, h2⟩ := want_e (by decide) he
    by_cases h : r.p + n ≤ s.length
    · left
      show ((), r.want _ _) = ((), r.want _ _)
      rw [decide_eq_true h, h2]
    · right
      show (r.want _ _).e = 3
      rw [decide_eq_false h, Rk.want_no h1]
  pos s r hp he := by show (r.want _ _).p ≤ _; rw [Rk.want_p]; exact hp
def atM : RM Nat := fun _ r => (r.p, r)
theorem at_nice : Nice atM := ⟨fun _ _ _ => rfl, fun _ _ _ _ _ => rfl, fun _ _ _ _ _ => .inl rfl, fun _ _ h _ => h⟩
def gua {α : Type} (d : α) (F : RM α) : RM α := fun s r => if r.e = 0 then F s r else (d, r)
theorem Nice.ite {α : Type} {F G : RM α} (c : Prop) [Decidable c] (h : Nice F) (k : Nice G) : Nice (fun s r => if c ∧ r.e = 0 then F s r else G s r) where
  bad s r hr := by
    rw [if_neg (fun h => hr h.2)]; exact k.bad s r hr
  ext s t r hp he := by
    split
    · rename_i hh; rw [if_pos hh] at he; exact h.ext s t r hp he
    · rename_i hh; rw [if_neg hh] at he; exact k.ext s t r hp he
  cut s t r hp he := by
    split
    · rename_i hh; rw [if_pos hh] at he; exact h.cut s t r hp he
    · rename_i hh; rw [if_neg hh] at he; exact k.cut s t r hp he
  pos s r hp he := by
    split
    · rename_i hh; rw [if_pos hh] at he; exact h.pos s r hp he
    · rename_i hh; rw [if_neg hh] at he; exact k.pos s r hp he
theorem Nice.gua {α : Type} (d : α) {F : RM α} (h : Nice F) : Nice (gua d F) := by
  have : Go.Proofs.Ytgdejgfmhndbhaa.gua d F = fun s r => if True ∧ r.e = 0 then F s r else Go.Proofs.Ytgdejgfmhndbhaa.pur d s r := by
    funext s r; simp [Go.Proofs.Ytgdejgfmhndbhaa.gua, Go.Proofs.Ytgdejgfmhndbhaa.pur]
  rw [this]
  exact Nice.ite True h (Nice.pur d)
/-! names -/
theorem naF_er {s : Bs} {f : Nat} {r : Rk} {bg : Nat} {bk : Option Nat} {out : Bs} (hr : ¬ r.e = 0) : (naF s f r bg bk out).2.e = r.e := by
  cases f with
  | zero => rfl
  | succ f =>
    have h : (nuR s r 1).e = r.e := (ta_nice 1).bad s r hr
    rw [naF_bad (by rw [h]; exact hr), h]
theorem naF_e0 {s : Bs} {f : Nat} {r : Rk} {bg : Nat} {bk : Option Nat} {out : Bs} (h : (naF s f r bg bk out).2.e = 0) : r.e = 0 := by
  by_cases hr : r.e = 0
  · exact hr
  · rw [naF_er hr] at h; exact h
theorem nu_ext {s t : Bs} {r : Rk} {n : Nat} (hp : r.p ≤ s.length) (h : (nuR s r n).e = 0) : nuN (s ++ t) r n = nuN s r n ∧ nuR (s ++ t) r n = nuR s r n := by
  have := (nu_nice n).ext s t r hp h
  exact ⟨congrArg (·.1) this, congrArg (·.2) this⟩
theorem nu_cut {s t : Bs} {r : Rk} {n : Nat} (hp : r.p ≤ s.length) (h : (nuR (s ++ t) r n).e = 0) : (nuN s r n = nuN (s ++ t) r n ∧ nuR s r n = nuR (s ++ t) r n) ∨ (nuR s r n).e = 3 := by
  rcases (nu_nice n).cut s t r hp h with e | e
  · exact .inl ⟨congrArg (·.1) e, congrArg (·.2) e⟩
  · exact .inr e
theorem want_lt {r : Rk} {b : Bool} {x : Int} (h : r.e = 3) : (r.want b x).e = 3 := by rw [Rk.want_bad (by rw [h]; decide), h]
theorem getD_le {bk : Option Nat} {n m : Nat} (h : bk.getD 0 ≤ m) (k : n ≤ m) : bk.getD n ≤ m := by cases bk <;> simpa using by assumption
theorem naF_ext (s t : Bs) : ∀ (f : Nat) (r : Rk) (bg : Nat) (bk : Option Nat) (out : Bs), r.p ≤ s.length → bg ≤ s.length → bk.getD 0 ≤ s.length → (naF s f r bg bk out).2.e = 0 → naF (s ++ t) f r bg bk out = naF s f r bg bk out
  | 0, _, _, _, _, _, _, _, _ => rfl
  | f + 1, r, bg, bk, out, hp, hb, hk, he => by
    by_cases h1 : (nuR s r 1).e = 0
    · obtain ⟨e1, e2⟩ := nu_ext (t := t) hp h1
      have hp1 : (nuR s r 1).p ≤ s.length := (nu_nice 1).pos s r hp h1
      by_cases h2 : nuN s r 1 = 0
      · rw [naF_end h1 h2, naF_end (by rw [e2]; exact h1) (by rw [e1]; exact h2), e2]
      · by_cases h3 : nuN s r 1 ≤ 63
        · rw [naF_lab h1 h2 h3] at he ⊢
          rw [naF_lab (by rw [e2]; exact h1) (by rw [e1]; exact h2) (by rw [e1]; exact h3), e1, e2]
          have h4 := (want_e (by decide) (naF_e0 he)).1
          obtain ⟨e3, e4⟩ := takO_app (t := t) (takR_e h4)
          rw [e3, e4]
          exact naF_ext s t f _ _ _ _ (by rw [Rk.want_p]; exact (ta_nice _).pos s _ hp1 h4) hb hk he
        · rw [naF_ptr rfl rfl h1 h3 rfl rfl rfl rfl] at he ⊢
          have h4 := naF_e0 he
          have h5 := want_e (by decide) h4
          have h6 := of_decide_eq_true h5.2
          have hp2 : ((nuR s r 1).want (decide (192 ≤ nuN s r 1)) 2).p ≤ s.length := by rw [Rk.want_p]; exact hp1
          obtain ⟨e3, e4⟩ := nu_ext (t := t) hp2 h5.1
          have hp3 := (nu_nice 1).pos s _ hp2 h5.1
          rw [naF_ptr (s := s ++ t) e2 e1 h1 h3 rfl e4 e3 rfl]
          exact naF_ext s t f _ _ _ _ (by show ptrN _ _ ≤ _; omega) (by omega) (by show bk.getD _ ≤ _; rw [Rk.want_p]; exact getD_le hk hp3) he
    · rw [naF_bad h1] at he
      exact absurd he h1
theorem naF_cut (s t : Bs) : ∀ (f : Nat) (r : Rk) (bg : Nat) (bk : Option Nat) (out : Bs), r.p ≤ s.length → bg ≤ s.length → (naF (s ++ t) f r bg bk out).2.e = 0 → naF s f r bg bk out = naF (s ++ t) f r bg bk out ∨ (naF s f r bg bk out).2.e = 3
  | 0, _, _, _, _, _, _, _ => .inl rfl
  | f + 1, r, bg, bk, out, hp, hb, he => by
    by_cases h1 : (nuR (s ++ t) r 1).e = 0
    · rcases nu_cut (t := t) hp h1 with ⟨e1, e2⟩ | e3
      · have h1' : (nuR s r 1).e = 0 := by rw [e2]; exact h1
        have hp1 : (nuR s r 1).p ≤ s.length := (nu_nice 1).pos s r hp h1'
        by_cases h2 : nuN (s ++ t) r 1 = 0
        · left
          rw [naF_end h1 h2, naF_end h1' (by rw [e1]; exact h2), e2]
        · by_cases h3 : nuN (s ++ t) r 1 ≤ 63
          · rw [naF_lab h1 h2 h3] at he ⊢
            rw [naF_lab h1' (by rw [e1]; exact h2) (by rw [e1]; exact h3), e1, e2]
            rw [← e2] at he ⊢
            have h4 := (want_e (by decide) (naF_e0 he)).1
            rcases (ta_nice (nuN (s ++ t) r 1)).cut s t (nuR s r 1) hp1 h4 with e | e
            · have e3 : takS s (nuR s r 1) (nuN (s ++ t) r 1) = takS (s ++ t) (nuR s r 1) (nuN (s ++ t) r 1) := congrArg (·.1) e
              have e4 : takR s (nuR s r 1) (nuN (s ++ t) r 1) = takR (s ++ t) (nuR s r 1) (nuN (s ++ t) r 1) := congrArg (·.2) e
              have h5 : (takR s (nuR s r 1) (nuN (s ++ t) r 1)).e = 0 := by rw [e4]; exact h4
              rw [← e3, ← e4] at he ⊢
              exact naF_cut s t f _ _ _ _ (by rw [Rk.want_p]; exact (ta_nice _).pos s _ hp1 h5) hb he
            · right
              have e : (takR s (nuR s r 1) (nuN (s ++ t) r 1)).e = 3 := e
              have h5 := want_lt (b := decide ((out ++ UInt8.ofNat (nuN (s ++ t) r 1) :: takS s (nuR s r 1) (nuN (s ++ t) r 1)).length < 255)) (x := 2) e
              rw [naF_er (by rw [h5]; decide), h5]
          · rw [naF_ptr (s := s ++ t) rfl rfl h1 h3 rfl rfl rfl rfl] at he ⊢
            have h4 := naF_e0 he
            have h5 := want_e (by decide) h4
            have h6 := of_decide_eq_true h5.2
            rw [naF_ptr (s := s) e2 e1 h1 h3 rfl rfl rfl rfl]
            have hp2 : ((nuR (s ++ t) r 1).want (decide (192 ≤ nuN (s ++ t) r 1)) 2).p ≤ s.length := by rw [Rk.want_p, ← e2]; exact hp1
            rcases nu_cut (t := t) hp2 h5.1 with ⟨e3, e4⟩ | e3
            · rw [e3, e4]
              exact naF_cut s t f _ _ _ _ (by show ptrN _ _ ≤ _; omega) (by omega) he
            · right
              have h7 := want_lt (b := decide (ptrN (nuN (s ++ t) r 1) (nuN s ((nuR (s ++ t) r 1).want (decide (192 ≤ nuN (s ++ t) r 1)) 2) 1) < bg)) (x := 2) e3
              rw [naF_er (by show ¬ _ = _; rw [h7]; decide)]
              exact h7
      · right
        rw [naF_bad (by rw [e3]; decide)]
        exact e3
    · rw [naF_bad h1] at he
      exact absurd he h1
theorem naF_pos (s : Bs) : ∀ (f : Nat) (r : Rk) (bg : Nat) (bk : Option Nat) (out : Bs), r.p ≤ s.length → bg ≤ s.length → bk.getD 0 ≤ s.length → (naF s f r bg bk out).2.e = 0 → (naF s f r bg bk out).2.p ≤ s.length
  | 0, _, _, _, _, hp, _, _, _ => hp
  | f + 1, r, bg, bk, out, hp, hb, hk, he => by
    by_cases h1 : (nuR s r 1).e = 0
    · have hp1 : (nuR s r 1).p ≤ s.length := (nu_nice 1).pos s r hp h1
      by_cases h2 : nuN s r 1 = 0
      · rw [naF_end h1 h2]; exact getD_le hk hp1
      · by_cases h3 : nuN s r 1 ≤ 63
        · rw [naF_lab h1 h2 h3] at he ⊢
          have h4 := (want_e (by decide) (naF_e0 he)).1
          exact naF_pos s f _ _ _ _ (by rw [Rk.want_p]; exact (ta_nice _).pos s _ hp1 h4) hb hk he
        · rw [naF_ptr rfl rfl h1 h3 rfl rfl rfl rfl] at he ⊢
          have h4 := naF_e0 he
          have h5 := want_e (by decide) h4
          have h6 := of_decide_eq_true h5.2
          have hp2 : ((nuR s r 1).want (decide (192 ≤ nuN s r 1)) 2).p ≤ s.length := by rw [Rk.want_p]; exact hp1
          have hp3 := (nu_nice 1).pos s _ hp2 h5.1
          exact naF_pos s f _ _ _ _ (by show ptrN _ _ ≤ _; omega) (by omega) (by show bk.getD _ ≤ _; rw [Rk.want_p]; exact getD_le hk hp3) he
    · rw [naF_bad h1] at he
      exact absurd he h1
theorem na_nice : Nice naR where
  bad s r hr := naF_er hr
  ext s t r hp he := naF_ext s t _ _ _ _ _ hp hp (Nat.zero_le _) he
  cut s t r hp he := naF_cut s t _ _ _ _ _ hp hp he
  pos s r hp he := naF_pos s _ _ _ _ _ hp hp (Nat.zero_le _) he
def hoM : RM Bs := fun s r => (hoS s r, hoR s r)
theorem ho_nice : Nice hoM := na_nice.bnd fun n => Nice.pur (hostS n)
theorem dx_nice (k : Int) (n : Nat) : Nice (fun s r => daX s r k n) := by
  by_cases h1 : k = 2 ∨ k = 5 ∨ k = 12
  · have : (fun s r => daX s r k n) = hoM := by funext s r; rw [daX, if_pos h1]; rfl
    rw [this]; exact ho_nice
  · by_cases h2 : k = 15
    · have : (fun s r => daX s r k n) = bnd (taM 2) (fun a => bnd hoM fun b => pur (a ++ b)) := by funext s r; rw [daX, if_neg h1, if_pos h2]; rfl
      rw [this]; exact (ta_nice _).bnd fun _ => ho_nice.bnd fun _ => Nice.pur _
    · by_cases h3 : k = 6
      · have : (fun s r => daX s r k n) = bnd hoM (fun a => bnd hoM fun b => bnd (taM 20) fun c => pur (a ++ (b ++ c))) := by funext s r; rw [daX, if_neg h1, if_neg h2, if_pos h3]; rfl
        rw [this]; exact ho_nice.bnd fun _ => ho_nice.bnd fun _ => (ta_nice _).bnd fun _ => Nice.pur _
      · have : (fun s r => daX s r k n) = taM n := by funext s r; rw [daX, if_neg h1, if_neg h2, if_neg h3]; rfl
        rw [this]; exact ta_nice _
def daM (k : Int) (n : Nat) : RM Bs := fun s r => (daS s r k n, daR s r k n)
theorem da_nice (k : Int) (n : Nat) : Nice (daM k n) := by
  have : daM k n = bnd atM fun p0 => bnd (waL n) fun _ => gua [] (bnd (fun s r => daX s r k n) fun d => bnd atM fun p => bnd (waM (decide (p = p0 + n)) 2) fun _ => pur d) := by
    funext s r
    show (daS s r k n, daR s r k n) = gua [] _ s (r.want (decide (r.p + n ≤ s.length)) 3)
    unfold gua daS daR daY
    split
    · rfl
    · rfl
  rw [this]
  exact at_nice.bnd fun _ => (waL_nice _).bnd fun _ => Nice.gua _ ((dx_nice k n).bnd fun _ => at_nice.bnd fun _ => (wa_nice _ _).bnd fun _ => Nice.pur _)
theorem rcF_nice (last : Bool) (n : Nat) : ∀ (f i : Nat) (l : List Rc), Nice (fun s r => rcF s last n f i r l)
  | 0, i, l => Nice.pur (l, 0)
  | f + 1, i, l => by
    have : (fun s r => rcF s last n (f + 1) i r l) = gua (l, 0) (bnd naR fun nm => bnd (nuM 2) fun ty => bnd (nuM 2) fun cl => fun s r =>
        if ty = 41 ∧ r.e = 0 then bnd (nuM 4) (fun tt => bnd (nuM 2) fun k => bnd (waM (opOk last i n nm cl tt k) 2) fun _ => pur (l, cl)) s r
        else bnd (waM (decide (cl = 1)) 2) (fun _ => bnd (nuM 4) fun tl => bnd (nuM 2) fun k => bnd (daM ty k) fun d => bnd (waM (decide (i < 200) && (⟨nm, ty, tl, d⟩ : Rc).ok) 2) fun _ => (fun s r => rcF s last n f (i + 1) r (l ++ [⟨nm, ty, tl, d⟩]))) s r) := by
      funext s r
      rw [rcF]
      unfold gua
      split
      · rfl
      · rfl
    rw [this]
    exact Nice.gua _ (na_nice.bnd fun nm => (nu_nice 2).bnd fun ty => (nu_nice 2).bnd fun cl => Nice.ite (ty = 41)
      ((nu_nice 4).bnd fun _ => (nu_nice 2).bnd fun _ => (wa_nice _ _).bnd fun _ => Nice.pur _)
      ((wa_nice _ _).bnd fun _ => (nu_nice 4).bnd fun _ => (nu_nice 2).bnd fun _ => (da_nice _ _).bnd fun _ => (wa_nice _ _).bnd fun _ => rcF_nice last n f (i + 1) _))
theorem rc_nice (last : Bool) (n : Nat) : Nice (fun s r => rcR s r n last) := (wa_nice (decide (n ≤ 200 + b2n last 1)) 2).bnd fun _ => rcF_nice last n n 0 []
theorem quF_nice : ∀ (f : Nat) (l : List Qn), Nice (fun s r => quF s f r l)
  | 0, l => Nice.pur l
  | f + 1, l => by
    have : (fun s r => quF s (f + 1) r l) = gua l (bnd naR fun nm => bnd (nuM 2) fun ty => bnd (nuM 2) fun cl => bnd (waM (decide (cl = 1) && (⟨nm, ty⟩ : Qn).ok) 2) fun _ => (fun s r => quF s f r (l ++ [⟨nm, ty⟩]))) := by
      funext s r
      rw [quF]
      unfold gua
      split
      · rfl
      · rfl
    rw [this]
    exact Nice.gua _ (na_nice.bnd fun nm => (nu_nice 2).bnd fun ty => (nu_nice 2).bnd fun cl => (wa_nice _ _).bnd fun _ => quF_nice f _)
def dcM : RM Msg := bnd (nuM 2) fun id => bnd (nuM 2) fun f => bnd (waM (decide (f / 16 % 8 = 0)) 2) fun _ => bnd (nuM 2) fun q => bnd (nuM 2) fun a => bnd (nuM 2) fun u => bnd (nuM 2) fun x => bnd (waM (decide (q ≤ 10)) 2) fun _ =>
  bnd (fun s r => quF s q r []) fun qs => bnd (fun s r => rcR s r a false) fun an => bnd (fun s r => rcR s r u false) fun ns => bnd (fun s r => rcR s r x true) fun ex =>
  pur ⟨id, decide (32768 ≤ f), (f / 2048 % 16 : Nat), decide (f / 1024 % 2 = 1), decide (f / 512 % 2 = 1), decide (f / 256 % 2 = 1), decide (f / 128 % 2 = 1), (f % 16 : Nat), qs, an.1, ns.1, ex.1, ex.2⟩
theorem dc_nice : Nice dcM := (nu_nice 2).bnd fun _ => (nu_nice 2).bnd fun _ => (wa_nice _ _).bnd fun _ => (nu_nice 2).bnd fun _ => (nu_nice 2).bnd fun _ => (nu_nice 2).bnd fun _ => (nu_nice 2).bnd fun _ => (wa_nice _ _).bnd fun _ =>
  (quF_nice _ _).bnd fun _ => (rc_nice _ _).bnd fun _ => (rc_nice _ _).bnd fun _ => (rc_nice _ _).bnd fun _ => Nice.pur _
theorem dcM_eq (s : Bs) : dcM s ⟨0, 0⟩ = (dcG s, (dcX s).2) := by
  simp only [dcM, bnd, pur, nuM, waM, dcG, dcX, dcU, dcA, dcQ, dcH, dcN, dcW, dcF, nuI]
  rfl
theorem dcE_app {s : Bs} {c : UInt8} (h : (dcX s).2 = ⟨s.length, 0⟩) : (dcE (s ++ [c])).e = 2 := by
  have h1 : (dcM s ⟨0, 0⟩).2.e = 0 := by rw [dcM_eq, h]
  have h2 := dc_nice.ext s [c] ⟨0, 0⟩ (Nat.zero_le _) h1
  rw [dcM_eq, dcM_eq] at h2
  have h3 : (dcX (s ++ [c])).2 = (dcX s).2 := congrArg (·.2) h2
  rw [dcE, h3, h, decide_eq_false (by simp), Rk.want_no rfl]
end Go.Proofs.Ytgdejgfmhndbhaa
