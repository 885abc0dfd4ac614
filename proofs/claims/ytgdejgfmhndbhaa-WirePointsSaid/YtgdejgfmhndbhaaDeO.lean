/-
  What is read may be; how long what is written is; a name that points; plain.
-/
import Derived.Test.YtgdejgfmhndbhaaDeP
import Derived.Test.YtgdejgfmhndbhaaDeN
namespace Go.Proofs.Ytgdejgfmhndbhaa
set_option linter.unusedSimpArgs false
set_option linter.unusedVariables false
/-! ### what is read may be -/
theorem nuN_2 (s : Bs) (r : Rk) : nuN s r 2 < 65536 := by
  have h1 := num_lt (takS s r 2)
  have h2 := takS_len s r 2
  have h3 : 256 ^ (takS s r 2).length ≤ 256 ^ 2 := Nat.pow_le_pow_right (by decide) h2
  exact Nat.lt_of_lt_of_le h1 (Nat.le_trans h3 (by decide))
theorem rcF_ok {s : Bs} (last : Bool) (n : Nat) : ∀ (f i : Nat) (r : Rk) (l : List Rc), (rcF s last n f i r l).2.e = 0 → l.all Rc.ok = true → l.length = i → i ≤ 200 →
    (rcF s last n f i r l).1.1.all Rc.ok = true ∧ (rcF s last n f i r l).1.1.length ≤ 200 ∧ ((rcF s last n f i r l).1.2 = 0 ∨ (512 ≤ (rcF s last n f i r l).1.2 ∧ (rcF s last n f i r l).1.2 ≤ 65535))
  | 0, i, r, l, he, h1, h2, h3 => ⟨h1, by rw [rcF]; dsimp only; omega, .inl rfl⟩
  | f + 1, i, r, l, he, h1, h2, h3 => by
    rw [rcF] at he ⊢
    split
    · rename_i hr
      rw [if_pos hr] at he
      split
      · rename_i hk
        rw [if_pos hk] at he
        have h4 := (want_e (by decide) he).2
        simp only [opOk, Bool.and_eq_true, decide_eq_true_eq] at h4
        have h5 := nuN_2 s (qhB s r)
        exact ⟨h1, by dsimp only; omega, .inr ⟨h4.2.2.2.1, by show qhC s r ≤ _; unfold qhC; omega⟩⟩
      · rename_i hk
        rw [if_neg hk] at he
        have h4 := (rcF_nice last n f (i + 1) _).e0 he
        have h5 := (want_e (by decide) h4).2
        simp only [Bool.and_eq_true, decide_eq_true_eq] at h5
        exact rcF_ok last n f (i + 1) _ _ he (by rw [List.all_append, h1]; simp; exact h5.2) (by simp [h2]) (by omega)
    · rename_i hr
      rw [if_neg hr] at he
      exact absurd he hr
theorem quF_ok {s : Bs} : ∀ (f : Nat) (r : Rk) (l : List Qn), (quF s f r l).2.e = 0 → l.all Qn.ok = true → (quF s f r l).1.all Qn.ok = true ∧ (quF s f r l).1.length = l.length + f
  | 0, r, l, he, h1 => ⟨h1, rfl⟩
  | f + 1, r, l, he, h1 => by
    rw [quF] at he ⊢
    split
    · rename_i hr
      rw [if_pos hr] at he
      have h4 := (quF_nice f _).e0 he
      have h5 := (want_e (by decide) h4).2
      simp only [Bool.and_eq_true, decide_eq_true_eq] at h5
      obtain ⟨h6, h7⟩ := quF_ok f _ _ he (by rw [List.all_append, h1]; simp; exact h5.2)
      exact ⟨h6, by rw [h7]; simp; omega⟩
    · rename_i hr
      rw [if_neg hr] at he
      exact absurd he hr
theorem dc_steps {s : Bs} (h : (dcE s).e = 0) : (dcX s).2.e = 0 ∧ (dcX s).2.p = s.length ∧ (dcU s).2.e = 0 ∧ (dcA s).2.e = 0 ∧ (dcQ s).2.e = 0 ∧ (dcH s).e = 0 ∧ dcN s 0 ≤ 10 := by
  obtain ⟨h1, h2⟩ := want_e (by decide) h
  have h3 := (rc_nice _ _).e0 h1
  have h4 := (rc_nice _ _).e0 h3
  have h5 := (rc_nice _ _).e0 h4
  have h6 := (quF_nice _ _).e0 h5
  exact ⟨h1, of_decide_eq_true h2, h3, h4, h5, h6, of_decide_eq_true (want_e (by decide) h6).2⟩
theorem rcR_ok {s : Bs} {r : Rk} {n : Nat} {last : Bool} (h : (rcR s r n last).2.e = 0) : (rcR s r n last).1.1.all Rc.ok = true ∧ (rcR s r n last).1.1.length ≤ 200 ∧ ((rcR s r n last).1.2 = 0 ∨ (512 ≤ (rcR s r n last).1.2 ∧ (rcR s r n last).1.2 ≤ 65535)) :=
  rcF_ok last n n 0 _ [] h rfl rfl (by decide)
theorem dc_qs {s : Bs} (h : (dcE s).e = 0) : (dcQ s).1.all Qn.ok = true ∧ (dcQ s).1.length = dcN s 0 := by
  obtain ⟨_, _, _, _, h5, _, _⟩ := dc_steps h
  have := quF_ok (dcN s 0) (dcH s) [] h5 rfl
  exact ⟨this.1, this.2.trans (Nat.zero_add _)⟩
theorem dc_ok {s : Bs} (h : (dcE s).e = 0) : msgB (dcG s) = true := by
  obtain ⟨h1, h2, h3, h4, h5, h6, h7⟩ := dc_steps h
  obtain ⟨q1, q2⟩ := dc_qs h
  obtain ⟨a1, a2, _⟩ := rcR_ok h4
  obtain ⟨u1, u2, _⟩ := rcR_ok h3
  obtain ⟨x1, x2, x3⟩ := rcR_ok h1
  have i1 := nuN_2 s ⟨0, 0⟩
  have e1 : (dcG s).id = (nuN s ⟨0, 0⟩ 2 : Nat) := rfl
  have e2 : (dcG s).op = (dcF s / 2048 % 16 : Nat) := rfl
  have e3 : (dcG s).rc = (dcF s % 16 : Nat) := rfl
  have e4 : (dcG s).sz = ((dcX s).1.2 : Nat) := rfl
  have x3' : (dcX s).1.2 = 0 ∨ (512 ≤ (dcX s).1.2 ∧ (dcX s).1.2 ≤ 65535) := x3
  simp only [msgB, headB, szB, mayB, Bool.and_eq_true, Bool.or_eq_true, decide_eq_true_eq]
  refine ⟨⟨⟨⟨by omega, by omega⟩, ⟨by omega, by omega⟩, ⟨by omega, by omega⟩, by omega⟩, ⟨?_, q1⟩⟩, ⟨a2, a1⟩, ⟨u2, u1⟩, ⟨x2, x1⟩⟩
  show (dcQ s).1.length ≤ 10
  omega
/-! ### how long -/
theorem nmX_len : ∀ (L : List Bs) (k : Nat) (pl : List (Bs × Nat)), L.all lblOk = true → 1 ≤ (nmX L k pl).1.length ∧ (nmX L k pl).1.length ≤ (jn L).length + 1
  | [], _, _, _ => by simp [nmX, jn]
  | x :: L, k, pl, h => by
    simp only [List.all_cons, Bool.and_eq_true] at h
    have hx := lblOk_iff.1 h.1
    rw [jn_cons]
    cases hf : fnd pl (jn (x :: L)) with
    | some a => simp [nmX, hf, wd2]
    | none =>
      have := nmX_len L (k + (x.length + 1)) (pl ++ [(jn (x :: L), k)]) h.2
      simp only [nmX, hf, List.length_append, List.length_cons]; omega
theorem name_len {n : Bs} (hn : cutB n = true) (w : Wr) : w.b.length + 1 ≤ (nameW n w).b.length ∧ (nameW n w).b.length ≤ w.b.length + n.length + 1 := by
  obtain ⟨hl, hc⟩ := cut_lab hn
  obtain ⟨hj, hok⟩ := lab_jn n (cutL n) hc
  have := nmX_len (cutL n) w.b.length w.pl hok
  rw [hj] at this
  rw [nameW, nameL_X]
  simp only [List.length_append]
  omega
theorem body_len2 {r : Rc} (hok : r.ok = true) (w : Wr) : (bodyW r w).b.length ≤ w.b.length + r.d.length := by
  obtain ⟨_, _, _, hf, _⟩ := rc_ok hok
  by_cases h6 : r.ty = 6
  · have hb : psB r.d = true := by
      rw [fitB, h6] at hf
      simpa using hf
    have hV : psV r.d = psS r.d := by rw [psV, if_pos hb]
    simp only [psB, Bool.and_eq_true, decide_eq_true_eq] at hb
    obtain ⟨⟨⟨b1, b2⟩, b3⟩, _⟩ := hb
    obtain ⟨e1, c1⟩ := fir_back b1
    obtain ⟨e2, c2⟩ := fir_back b2
    have hl := congrArg List.length e1
    have hl2 := congrArg List.length e2
    simp only [List.length_append, List.length_cons] at hl hl2
    rw [bodyW, if_pos h6, hV]
    show ((nameW (firN (firR r.d)) (nameW (firN r.d) w)).add _).b.length ≤ _
    have n1 := name_len c1 w
    have n2 := name_len c2 (nameW (firN r.d) w)
    simp only [Wr.add, List.length_append, List.length_drop]
    omega
  · by_cases h33 : phC r.ty r.d = 0 ∧ r.ty ≠ 33
    · obtain ⟨e1, c1, z1, z2⟩ := ph_back h33.1
      have hl := congrArg List.length e1
      simp only [List.length_append, List.length_take, List.length_cons, List.length_nil] at hl
      rw [bodyW, if_neg h6, if_pos h33]
      have n1 := name_len c1 (w.add (r.d.take (r.d.length - (phN r.ty r.d).length - 1)))
      simp only [Wr.add, List.length_append, List.length_take] at n1 ⊢
      omega
    · rw [bodyW, if_neg h6, if_neg h33]
      simp [Wr.add]
theorem rec_len2 {r : Rc} (hok : r.ok = true) (w : Wr) : w.b.length + 11 ≤ (recW r w).b.length ∧ (recW r w).b.length ≤ w.b.length + r.nm.length + 11 + r.d.length := by
  obtain ⟨_, _, _, _, hc⟩ := rc_ok hok
  have n1 := name_len hc w
  obtain ⟨w5, ew5⟩ : ∃ w5, w5 = ((((nameW r.nm w).add (wd2 r.ty.toNat)).add (wd2 1)).add (w4 r.tl.toNat)) := ⟨_, rfl⟩
  have eR : recW r w = dataW r w5 := by rw [ew5]; rfl
  have l5 : w5.b.length = (nameW r.nm w).b.length + 8 := by rw [ew5]; simp [Wr.add, wd2, w4_len]
  obtain ⟨eD, lD⟩ := dataW_eq r w5
  have hb := body_len2 hok (w5.add (wd2 (bodyN r w5)))
  rw [← eD] at hb
  have l6 : (w5.add (wd2 (bodyN r w5))).b.length = w5.b.length + 2 := by simp [Wr.add, wd2]
  rw [eR]
  omega
/-- a record more, as the last one -/
def Msg.more (m : Msg) (r : Rc) : Msg := { m with ex := m.ex ++ [r] }
theorem Lin.len2 {O : Wr → Wr} (h : Lin O) {a b : Bs} (hl : a.length = b.length) (pl : List (Bs × Nat)) : (O ⟨a, pl⟩).b.length = (O ⟨b, pl⟩).b.length := by
  obtain ⟨x, p, h⟩ := h
  rw [h, h]
  simp [hl]
theorem more_len {m : Msg} {r : Rc} (hok : r.ok = true) : (encW m).b.length + 11 ≤ (encW (m.more r)).b.length ∧ (encW (m.more r)).b.length ≤ (encW m).b.length + r.nm.length + 11 + r.d.length := by
  have hO : Lin (fun w => recsW m.ex (recsW m.ns (recsW m.an (qusW m.qs w)))) := (((Lin.qus _).comp (Lin.recs _)).comp (Lin.recs _)).comp (Lin.recs _)
  have h1 := hO.len2 (a := headW (m.more r)) (b := headW m) (by rw [headW_ln, headW_ln]) []
  obtain ⟨W, eW⟩ : ∃ W, W = recsW m.ex (recsW m.ns (recsW m.an (qusW m.qs ⟨headW m, []⟩))) := ⟨_, rfl⟩
  obtain ⟨V, eV⟩ : ∃ V, V = recsW m.ex (recsW m.ns (recsW m.an (qusW m.qs ⟨headW (m.more r), []⟩))) := ⟨_, rfl⟩
  have h1 : V.b.length = W.b.length := by rw [eV, eW]; exact h1
  have e1 : encW m = optW m W := by rw [eW]; rfl
  have e2 : encW (m.more r) = optW m (recW r V) := by
    rw [eV]
    show optW (m.more r) (recsW (m.ex ++ [r]) _) = _
    simp only [recsW, List.foldl_append, List.foldl_cons, List.foldl_nil]
    rfl
  have h2 := rec_len2 hok V
  rw [e1, e2]
  unfold optW
  split
  · omega
  · simp only [Wr.add, List.length_append]; omega
theorem enc_head (m : Msg) : ∃ X, (encW m).b = headW m ++ X := by
  have hO : Lin (fun w => optW m (recsW m.ex (recsW m.ns (recsW m.an (qusW m.qs w))))) := ((((Lin.qus _).comp (Lin.recs _)).comp (Lin.recs _)).comp (Lin.recs _)).comp (Lin.optw m)
  obtain ⟨X, P, e⟩ := hO.le ⟨headW m, []⟩
  exact ⟨X, congrArg Wr.b e⟩
/-! ### a name that points -/
def ptB (tg : Nat) : Bs := [0, 0, 0, 0, 0, 2, 0, 0, 0, 0, 0, 0, 1, 97, 0, 0, 1, 0, 1, UInt8.ofNat (192 + tg / 256), UInt8.ofNat (tg % 256), 0, 1, 0, 1]
theorem pt_at (tg : Nat) : (dcH (ptB tg) = ⟨12, 0⟩ ∧ quK (ptB tg) ⟨12, 0⟩ = ⟨19, 0⟩ ∧ qhN (ptB tg) ⟨12, 0⟩ = [1, 97] ∧ qhT (ptB tg) ⟨12, 0⟩ = 1) ∧ dcN (ptB tg) 0 = 2 := by
  have H : ∀ (u v : Bs) (X : Bs), ptB tg = u ++ (X ++ v) → Has (ptB tg) u.length X := fun u v X e => ⟨u, v, e, rfl⟩
  have g0 := (H [] _ (wd2 0) rfl).num2 (by decide)
  have g1 := (H [0, 0] _ (wd2 0) rfl).num2 (by decide)
  have g2 := (H [0, 0, 0, 0] _ (wd2 2) rfl).num2 (by decide)
  have g3 := (H [0, 0, 0, 0, 0, 2] _ (wd2 0) rfl).num2 (by decide)
  have g4 := (H [0, 0, 0, 0, 0, 2, 0, 0] _ (wd2 0) rfl).num2 (by decide)
  have g5 := (H [0, 0, 0, 0, 0, 2, 0, 0, 0, 0] _ (wd2 0) rfl).num2 (by decide)
  have g6 := H [0, 0, 0, 0, 0, 2, 0, 0, 0, 0, 0, 0] _ [UInt8.ofNat 1, 97] rfl
  have g7 := H [0, 0, 0, 0, 0, 2, 0, 0, 0, 0, 0, 0, 1, 97] _ [0] rfl
  have g8 := (H [0, 0, 0, 0, 0, 2, 0, 0, 0, 0, 0, 0, 1, 97, 0] _ (wd2 1) rfl).num2 (by decide)
  have g9 := (H [0, 0, 0, 0, 0, 2, 0, 0, 0, 0, 0, 0, 1, 97, 0, 0, 1] _ (wd2 1) rfl).num2 (by decide)
  simp only [List.length_cons, List.length_nil] at g0 g1 g2 g3 g4 g5 g6 g7 g8 g9
  have hat : At (ptB tg) 12 12 ([1, 97] : Bs) 15 := At.lab (x := [97]) (n := []) rfl g6 (.nil g7)
  have hna := hat.name (by decide)
  have n1 : nuI (ptB tg) ⟨0, 0⟩ 1 = ⟨2, 0⟩ := g0.2
  have n2 : nuI (ptB tg) ⟨0, 0⟩ 2 = ⟨4, 0⟩ := by rw [nuI, n1]; exact g1.2
  have hF : dcF (ptB tg) = 0 := by rw [dcF, n1]; exact g1.1
  have hW : dcW (ptB tg) = ⟨4, 0⟩ := by rw [dcW, hF, n2]; rfl
  have m1 : nuI (ptB tg) ⟨4, 0⟩ 1 = ⟨6, 0⟩ := g2.2
  have m2 : nuI (ptB tg) ⟨4, 0⟩ 2 = ⟨8, 0⟩ := by rw [nuI, m1]; exact g3.2
  have m3 : nuI (ptB tg) ⟨4, 0⟩ 3 = ⟨10, 0⟩ := by rw [nuI, m2]; exact g4.2
  have m4 : nuI (ptB tg) ⟨4, 0⟩ 4 = ⟨12, 0⟩ := by rw [nuI, m3]; exact g5.2
  have a2 : dcN (ptB tg) 0 = 2 := by rw [dcN, hW]; exact g2.1
  have a1 : dcH (ptB tg) = ⟨12, 0⟩ := by rw [dcH, hW, a2, m4]; rfl
  have qN : qhN (ptB tg) ⟨12, 0⟩ = [1, 97] := by rw [qhN, hna]
  have qA : qhA (ptB tg) ⟨12, 0⟩ = ⟨15, 0⟩ := by rw [qhA, hna]
  have qT : qhT (ptB tg) ⟨12, 0⟩ = 1 := by rw [qhT, qA, g8.1]
  have qB : qhB (ptB tg) ⟨12, 0⟩ = ⟨17, 0⟩ := by rw [qhB, qA, g8.2]
  have qC : qhC (ptB tg) ⟨12, 0⟩ = 1 := by rw [qhC, qB, g9.1]
  have qR : qhR (ptB tg) ⟨12, 0⟩ = ⟨19, 0⟩ := by rw [qhR, qB, g9.2]
  have a3 : quK (ptB tg) ⟨12, 0⟩ = ⟨19, 0⟩ := by rw [quK, qN, qT, qC, qR]; exact want_pos _ (by decide +kernel) _
  exact ⟨⟨a1, a3, qN, qT⟩, a2⟩
theorem pt_far {tg : Nat} (h : 19 ≤ tg) (h2 : tg ≤ 16383) : (dcE (ptB tg)).e = 2 := by
  obtain ⟨⟨a1, a3, _, _⟩, a2⟩ := pt_at tg
  have H : ∀ (u v : Bs) (X : Bs), ptB tg = u ++ (X ++ v) → Has (ptB tg) u.length X := fun u v X e => ⟨u, v, e, rfl⟩
  have gA := (H [0, 0, 0, 0, 0, 2, 0, 0, 0, 0, 0, 0, 1, 97, 0, 0, 1, 0, 1] _ [UInt8.ofNat (192 + tg / 256)] rfl).num1
  have gB := (H [0, 0, 0, 0, 0, 2, 0, 0, 0, 0, 0, 0, 1, 97, 0, 0, 1, 0, 1, UInt8.ofNat (192 + tg / 256)] _ [UInt8.ofNat (tg % 256)] rfl).num1
  simp only [List.length_cons, List.length_nil] at gA gB
  have c1 : nuR (ptB tg) ⟨19, 0⟩ 1 = ⟨20, 0⟩ := gA.2
  have c2 : nuN (ptB tg) ⟨19, 0⟩ 1 = 192 + tg / 256 := by
    rw [gA.1, UInt8.toNat_ofNat']; omega
  have c3 : nuR (ptB tg) ⟨20, 0⟩ 1 = ⟨21, 0⟩ := gB.2
  have c4 : nuN (ptB tg) ⟨20, 0⟩ 1 = tg % 256 := by
    rw [gB.1, UInt8.toNat_ofNat']; omega
  have c5 : ptrN (192 + tg / 256) (tg % 256) = tg := by unfold ptrN; omega
  have hn : (naR (ptB tg) ⟨19, 0⟩).2.e = 2 := by
    show (naF (ptB tg) (318 + 1) ⟨19, 0⟩ 19 none []).2.e = 2
    rw [naF_ptr c1 c2 rfl (by omega) (r2 := ⟨20, 0⟩) (by rw [decide_eq_true (by omega), Rk.want_yes]) c3 c4 (r4 := ⟨21, 2⟩) (by rw [c5, decide_eq_false (by omega)]; rfl)]
    rw [naF_er (by show ¬ (2 : Int) = 0; decide)]
  have hk : (quK (ptB tg) ⟨19, 0⟩).e = 2 := by
    have h1 : (qhB (ptB tg) ⟨19, 0⟩).e = 2 := ((nu_nice 2).bad _ (qhA (ptB tg) ⟨19, 0⟩) (by show ¬ (naR (ptB tg) ⟨19, 0⟩).2.e = 0; rw [hn]; decide)).trans hn
    have h2 : (qhR (ptB tg) ⟨19, 0⟩).e = 2 := ((nu_nice 2).bad _ (qhB (ptB tg) ⟨19, 0⟩) (by rw [h1]; decide)).trans h1
    rw [quK, Rk.want_bad (by rw [h2]; decide), h2]
  have hQ : (dcQ (ptB tg)).2.e = 2 := by
    rw [dcQ, a1, a2, quF, if_pos rfl, a3, quF, if_pos rfl, quF]
    exact hk
  have hA : (dcA (ptB tg)).2.e = 2 := ((rc_nice _ _).bad _ _ (by rw [hQ]; decide)).trans hQ
  have hU : (dcU (ptB tg)).2.e = 2 := ((rc_nice _ _).bad _ _ (by rw [hA]; decide)).trans hA
  have hX : (dcX (ptB tg)).2.e = 2 := ((rc_nice _ _).bad _ _ (by rw [hU]; decide)).trans hU
  rw [dcE, Rk.want_bad (by rw [hX]; decide), hX]
theorem pt_12 : (dcE (ptB 12)).e = 0 ∧ (dcG (ptB 12)).qs = [⟨[1, 97], 1⟩, ⟨[1, 97], 1⟩] := by
  constructor
  · decide +kernel
  · rfl
theorem pt_two {tg : Nat} (h : (dcE (ptB tg)).e = 0) : (dcG (ptB tg)).qs.length = 2 := by
  have h2 : dcN (ptB tg) 0 = 2 := (pt_at tg).2
  exact (dc_qs h).2.trans h2
end Go.Proofs.Ytgdejgfmhndbhaa
