/-
  The program's reader of messages: a name.
-/
import Derived.Test.YtgdejgfmhndbhaaDeB
import Derived.Test.YtgdejgfmhndbhaaKb
namespace Go.Proofs.Ytgdejgfmhndbhaa
open Go.RowKit
set_option linter.unusedSimpArgs false
set_option linter.unusedVariables false
def ptrN (k n : Nat) : Nat := 256 * (k % 64) + n
def naF (s : Bs) : Nat → Rk → Nat → Option Nat → Bs → Bs × Rk
  | 0, r, _, _, _ => ([], r)
  | f + 1, r, bg, bk, out =>
    let k := nuN s r 1
    let r1 := nuR s r 1
    if ¬ r1.e = 0 ∨ k = 0 then (if r1.e = 0 then out else [], ⟨bk.getD r1.p, r1.e⟩)
    else if k ≤ 63 then
      let out' := out ++ UInt8.ofNat k :: takS s r1 k
      naF s f ((takR s r1 k).want (decide (out'.length < 255)) 2) bg bk out'
    else
      let r2 := r1.want (decide (192 ≤ k)) 2
      let r3 := nuR s r2 1
      let go := ptrN k (nuN s r2 1)
      let r4 := r3.want (decide (go < bg)) 2
      naF s f ⟨go, r4.e⟩ go (some (bk.getD r4.p)) out
def naR (s : Bs) (r : Rk) : Bs × Rk := naF s (r.p + 300) r r.p none []
def naMu (r : Rk) (bg : Nat) (out : Bs) : Nat := if r.e = 0 then 1 + bg + (255 - out.length) else 0
theorem takR_e {s : Bs} {r : Rk} {n : Nat} (h : (takR s r n).e = 0) : takO s r n = true := by
  cases hO : takO s r n with
  | true => rfl
  | false =>
    rw [takR, hO] at h
    simp only [Bool.false_eq_true, if_false] at h
    unfold Rk.want at h
    split at h
    · cases h
    · rename_i hn
      exact absurd ⟨h, rfl⟩ hn
theorem want_e {r : Rk} {is : Bool} {x : Int} (hx : ¬ x = 0) (h : (r.want is x).e = 0) : r.e = 0 ∧ is = true := by
  unfold Rk.want at h
  split at h
  · exact absurd h hx
  · rename_i hn
    refine ⟨h, ?_⟩
    cases is
    · exact absurd ⟨h, rfl⟩ hn
    · rfl
theorem takR_p (s : Bs) (r : Rk) (n : Nat) (hp : r.p ≤ 70000) (hs : s.length ≤ 70000) : (takR s r n).p ≤ 70000 := by
  cases hO : takO s r n with
  | true => rw [takR, if_pos hO]; have := (takO_iff.1 hO).2; simp only []; omega
  | false => rw [takR, hO]; simp only [Bool.false_eq_true, if_false, Rk.want_p]; exact hp
theorem nuN_1 (s : Bs) (r : Rk) : nuN s r 1 < 256 := by
  have h1 := num_lt (takS s r 1)
  have h2 := takS_len s r 1
  have h3 : 256 ^ (takS s r 1).length ≤ 256 ^ 1 := Nat.pow_le_pow_right (by decide) h2
  exact Nat.lt_of_lt_of_le h1 h3
theorem ptr_bits (k n : Nat) (hk : k < 256) (hn : n < 256) : bits .or .i64 (bits .and .i64 ((k : Int) * 256) 16383) (n : Int) = ((ptrN k n : Nat) : Int) := by
  have h1 : ((k : Int) * 256) = ((256 * k : Nat) : Int) := by omega
  rw [h1, show (16383 : Int) = ((16383 : Nat) : Int) from rfl, bits_and_i64 _ _ (by omega) (by omega)]
  have h2 : 256 * k &&& 16383 = 256 * (k % 64) := by
    have : 16383 = 2 ^ 14 - 1 := rfl
    rw [this, Nat.and_two_pow_sub_one_eq_mod]
    omega
  rw [h2, bits_or_i64 _ _ (by omega) (by omega)]
  unfold ptrN
  rw [show 256 = 2 ^ 8 from rfl, ← Nat.two_pow_add_eq_or_of_lt (by omega)]
def bkI : Option Nat → Int
  | none => -1
  | some b => b
theorem nuR_e {s : Bs} {r : Rk} {n : Nat} (h : (nuR s r n).e = 0) : r.e = 0 := (takO_iff.1 (takR_e h)).1
theorem naF_bad {s : Bs} {f : Nat} {r : Rk} {bg : Nat} {bk : Option Nat} {out : Bs} (h : ¬ (nuR s r 1).e = 0) : naF s (f + 1) r bg bk out = ([], ⟨bk.getD (nuR s r 1).p, (nuR s r 1).e⟩) := by
  simp only [naF]; rw [if_pos (.inl h), if_neg h]
theorem naF_end {s : Bs} {f : Nat} {r : Rk} {bg : Nat} {bk : Option Nat} {out : Bs} (h : (nuR s r 1).e = 0) (hk : nuN s r 1 = 0) : naF s (f + 1) r bg bk out = (out, ⟨bk.getD (nuR s r 1).p, 0⟩) := by
  simp only [naF]; rw [if_pos (.inr hk), if_pos h, h]
theorem naF_lab {s : Bs} {f : Nat} {r : Rk} {bg : Nat} {bk : Option Nat} {out : Bs} (h : (nuR s r 1).e = 0) (hk : ¬ nuN s r 1 = 0) (hk2 : nuN s r 1 ≤ 63) : naF s (f + 1) r bg bk out = naF s f ((takR s (nuR s r 1) (nuN s r 1)).want (decide ((out ++ UInt8.ofNat (nuN s r 1) :: takS s (nuR s r 1) (nuN s r 1)).length < 255)) 2) bg bk (out ++ UInt8.ofNat (nuN s r 1) :: takS s (nuR s r 1) (nuN s r 1)) := by
  simp only [naF]; rw [if_neg (by simp [h, hk]), if_pos hk2]
theorem naF_ptr {s : Bs} {f : Nat} {r r1 r2 r3 r4 : Rk} {bg k n : Nat} {bk : Option Nat} {out : Bs} (e1 : nuR s r 1 = r1) (ek : nuN s r 1 = k) (h : r1.e = 0) (hk2 : ¬ k ≤ 63) (e2 : r1.want (decide (192 ≤ k)) 2 = r2) (e3 : nuR s r2 1 = r3) (en : nuN s r2 1 = n) (e4 : r3.want (decide (ptrN k n < bg)) 2 = r4) :
    naF s (f + 1) r bg bk out = naF s f ⟨ptrN k n, r4.e⟩ (ptrN k n) (some (bk.getD r4.p)) out := by
  subst e1 ek
  simp only [naF]; rw [if_neg (by simp [h]; omega), if_neg hk2, e2, e3, en, e4]
theorem naMu_lab {r r' : Rk} {bg : Nat} {out out' : Bs} (h : r.e = 0) (h' : r'.e = 0 → out.length < out'.length ∧ out'.length < 255) : naMu r' bg out' < naMu r bg out := by
  simp only [naMu, h, if_true]
  split
  · rename_i hh
    have := h' hh
    omega
  · omega
theorem naMu_ptr {r r' : Rk} {bg bg' : Nat} {out : Bs} (h : r.e = 0) (h' : r'.e = 0 → bg' < bg) : naMu r' bg' out < naMu r bg out := by
  simp only [naMu, h, if_true]
  split
  · rename_i hh
    have := h' hh
    omega
  · omega
def naMuV (t : Nat) (x b : Value) (W : World) : Nat := match W.cell? ⟨t, 2, none⟩ with
  | some (.int .i64 0) => 1 + (intOf b).toNat + (255 - (match x with | .string s => s.size | _ => 0))
  | _ => 0
theorem naMuV_eq {t : Nat} {W : World} {s : Bs} {r : Rk} (h : RkM W t s r) (out : Bs) (bg : Nat) : naMuV t (.string ⟨out.toArray⟩) (.int .i64 bg) W = naMu r bg out := by
  obtain ⟨p, e⟩ := r
  have h2 := h.cells.2.2.1
  simp only [naMuV, h2, naMu]
  by_cases he : e = 0
  · subst he; simp [intOf, ba_size]
  · rw [if_neg he]
    split
    · rename_i hh
      injection hh with hh
      injection hh with _ hh
      exact absurd hh he
    · rfl
structure NaI (t : Nat) (s : Bs) (w : World) (R : Bs × Rk) (rr : Rk) (bg : Nat) (bk : Option Nat) (out : Bs) (wr : World) : Prop where
  mem : RkM wr t s rr
  upd : UpdT t w wr
  pp : rr.p ≤ 70000
  bb : bg ≤ 70000
  kk : bk.getD 0 ≤ 70000
  oo : out.length ≤ 318
  o2 : rr.e = 0 → out.length < 255
  res : ∃ f, naMu rr bg out ≤ f ∧ R = naF s (f + 1) rr bg bk out
theorem na_lab {t : Nat} {s : Bs} {w : World} {R : Bs × Rk} {rr r2 : Rk} {bg : Nat} {bk : Option Nat} {out out' l : Bs} {wr w3 : World} {k g : Nat} {c : UInt8} (I : NaI t s w R rr bg bk out wr) (h0 : rr.e = 0) (hk : k ≤ 63) (hl : l.length ≤ k) (ho : out' = out ++ c :: l) (hp : r2.p ≤ 70000)
    (hm : RkM w3 t s (r2.want (decide (out'.length < 255)) 2)) (hu : UpdT t wr w3) (hf : naMu rr bg out ≤ g + 1) (hres : R = naF s (g + 1) (r2.want (decide (out'.length < 255)) 2) bg bk out') :
    (∃ (rr : Rk) (bg1 : Nat) (bk1 : Option Nat) (out1 : Bs), Value.string ⟨out'.toArray⟩ = .string ⟨out1.toArray⟩ ∧ Value.int .i64 bg = .int .i64 bg1 ∧ Value.int .i64 (bkI bk) = .int .i64 (bkI bk1) ∧ NaI t s w R rr bg1 bk1 out1 w3) ∧
    naMuV t (.string ⟨out'.toArray⟩) (.int .i64 bg) w3 < naMuV t (.string ⟨out.toArray⟩) (.int .i64 bg) wr := by
  have hlen : out'.length = out.length + (l.length + 1) := by rw [ho]; simp
  have h1 := I.o2 h0
  have he : (r2.want (decide (out'.length < 255)) 2).e = 0 → out'.length < 255 := fun h => by simpa using (want_e (by decide) h).2
  have hlt : naMu (r2.want (decide (out'.length < 255)) 2) bg out' < naMu rr bg out := naMu_lab h0 (fun h => ⟨by omega, he h⟩)
  refine ⟨⟨_, bg, bk, out', rfl, rfl, rfl, ⟨hm, I.upd.tr hu, by rw [Rk.want_p]; exact hp, I.bb, I.kk, by omega, he, g, by omega, hres⟩⟩, ?_⟩
  rw [naMuV_eq hm, naMuV_eq I.mem]
  exact hlt
theorem na_ptr {t : Nat} {s : Bs} {w : World} {R : Bs × Rk} {rr r3 : Rk} {bg : Nat} {bk bk' : Option Nat} {out : Bs} {wr w3 : World} {d g : Nat} (I : NaI t s w R rr bg bk out wr) (h0 : rr.e = 0) (hd : d ≤ 70000) (hb : bk'.getD 0 ≤ 70000)
    (hm : RkM w3 t s ⟨d, (r3.want (decide (d < bg)) 2).e⟩) (hu : UpdT t wr w3) (hf : naMu rr bg out ≤ g + 1) (hres : R = naF s (g + 1) ⟨d, (r3.want (decide (d < bg)) 2).e⟩ d bk' out) :
    (∃ (rr : Rk) (bg1 : Nat) (bk1 : Option Nat) (out1 : Bs), Value.string ⟨out.toArray⟩ = .string ⟨out1.toArray⟩ ∧ Value.int .i64 d = .int .i64 bg1 ∧ Value.int .i64 (bkI bk') = .int .i64 (bkI bk1) ∧ NaI t s w R rr bg1 bk1 out1 w3) ∧
    naMuV t (.string ⟨out.toArray⟩) (.int .i64 d) w3 < naMuV t (.string ⟨out.toArray⟩) (.int .i64 bg) wr := by
  have he : (r3.want (decide (d < bg)) 2).e = 0 → d < bg := fun h => by simpa using (want_e (by decide) h).2
  have hlt : naMu ⟨d, (r3.want (decide (d < bg)) 2).e⟩ d out < naMu rr bg out := naMu_ptr h0 he
  refine ⟨⟨_, d, bk', out, rfl, rfl, rfl, ⟨hm, I.upd.tr hu, hd, hd, hb, I.oo, fun _ => I.o2 h0, g, by omega, hres⟩⟩, ?_⟩
  rw [naMuV_eq hm, naMuV_eq I.mem]
  exact hlt
theorem cells_brD {W : World} {b n : Nat} {l : Bs} {cells : Array Value} (hc : cells = (byt l).toArray) (hn : l.length = n) (h : W.heap[b]? = some (.cells cells 5 (0, 0))) (hm : n ≤ 1000) : BR 5 0 W (.slice (some ⟨b, 0, none⟩) n n) l := by
  subst hc
  subst hn
  exact .inr ⟨b, l.length, _, _, rfl, Nat.zero_le _, h, .inl (Nat.le_refl _), Nat.le_refl _, by unfold maxLen; omega, by simp [byt_len], by simp [byt_len, List.take_of_length_le]⟩
set_option maxRecDepth 100000 in
set_option maxHeartbeats 16000000 in
theorem rname_dw (t : Nat) (s : Bs) (r : Rk) (w : World) (h : RkM w t s r) (hs : s.length ≤ 70000) (hp : r.p ≤ 70000) :
    Calls Try.prog 51 #[.pointer (some ⟨t, 0, none⟩)] w (Rets fun v w' => v = .string ⟨(naR s r).1.toArray⟩ ∧ RkM w' t s (naR s r).2 ∧ UpdT t w w') := by
  obtain ⟨c0, c1, c2, c3⟩ := h.cells
  have hlt := h.lt
  have hh := Lib.hid h
  have hR := Lib.hid (show naR s r = naF s (r.p + 299 + 1) r r.p none [] from rfl)
  obtain ⟨R, hRR⟩ : ∃ R, naR s r = R := ⟨_, rfl⟩
  rw [hRR] at hR ⊢
  clear h hRR
  go_enter Try.func51, Try.ntmps51
  go_wp2_with (first | (with_reducible refine wp_serial (by kernel_rfl) (by kernel_rfl) (by repeat with_reducible (first | apply NoBad.then | apply NoBad.inBlock | apply NoBad.jump | exact NoBad.rets)) ?_) | fail)
  go_loopw [2, 3, 4] (fun x b k wr => ∃ (rr : Rk) (bg : Nat) (bk : Option Nat) (out : Bs), x = .string ⟨out.toArray⟩ ∧ b = .int .i64 bg ∧ k = .int .i64 (bkI bk) ∧ NaI t s w R rr bg bk out wr) (fun x b _ wr => naMuV t x b wr)
  case atStart => exact ⟨r, r.p, none, [], rfl, rfl, rfl, hh.out, Upd.refl _ _, hp, hp, Nat.zero_le _, Nat.zero_le _, fun _ => by simp, r.p + 299, by simp only [naMu]; split <;> simp <;> omega, hR.out⟩
  case round =>
    obtain ⟨rr, bg, bk, out, rfl, rfl, rfl, I⟩ := hrel
    have Ih := Lib.hid I
    have ipp := I.pp
    have ibb := I.bb
    have ioo := I.oo
    have hmu := Lib.hid (naMuV_eq I.mem out bg)
    obtain ⟨f, hf, hRf⟩ := I.res
    have hfh := Lib.hid hf
    have hRh := Lib.hid hRf
    have hN := Lib.hid (fun (w' : World) (h : RkM w' t s rr) => num1_w t s rr w' h hs ipp)
    obtain ⟨k, hk⟩ : ∃ k, nuN s rr 1 = k := ⟨_, rfl⟩
    obtain ⟨r1, hr1⟩ : ∃ r1, nuR s rr 1 = r1 := ⟨_, rfl⟩
    have hk2 : k < 256 := by rw [← hk]; exact nuN_1 s rr
    have hp1 : r1.p ≤ 70000 := by rw [← hr1]; exact takR_p s rr 1 ipp hs
    have hkh := Lib.hid hk
    have hr1h := Lib.hid hr1
    rw [hk, hr1] at hN
    clear I hf hRf hk hr1
    by_cases he1 : r1.e = 0
    · have hrre := Lib.hid (show rr.e = 0 from nuR_e (by rw [hr1h.out]; exact he1))
      obtain ⟨g, rfl⟩ : ∃ g, f = g + 1 := ⟨f - 1, by have h1 := hfh.out; simp only [naMu, hrre.out, if_true] at h1; omega⟩
      by_cases hk0 : k = 0
      · have hres := Lib.hid (hRh.out.trans (naF_end (by rw [hr1h.out]; exact he1) (by rw [hkh.out]; exact hk0)))
        rw [hr1h.out] at hres
        obtain ⟨p1, e1⟩ := r1
        simp only [] at he1 hp1 hres
        subst he1
        subst hk0
        cases bk with
        | none =>
          simp only [bkI]
          go_wp2_with (first
            | (go_at_call 49; (with_reducible refine (hN.out _ (Ih.out.mem.to0 (by repeat first | with_reducible (first | exact Upd.refl _ _ | assumption | apply Upd.drew | apply Upd.alloc) | refine Upd0.tr ?_ (by with_reducible assumption) | refine Upd.setCell ?_ (fun h => absurd h (by first | exact Nat.lt_irrefl _ | (simp only []; omega))) _))).use ?_); rintro v w1 ⟨rfl, hm1, hu1⟩; have hm1h := Lib.hid hm1; have hlt1 := hm1.lt; obtain ⟨x0, x1, x2, x3⟩ := hm1.cells; clear hm1)
            | (with_reducible refine wp_serial (by kernel_rfl) (by kernel_rfl) (by repeat with_reducible (first | apply NoBad.then | apply NoBad.inBlock | apply NoBad.jump | exact NoBad.rets)) ?_) | fail)
          all_goals go_returns
          all_goals (rw [hres.out]; exact ⟨rfl, hm1h.out, Ih.out.upd.tr hu1⟩)
        | some b =>
          simp only [bkI]
          go_wp2_with (first
            | (go_at_call 49; (with_reducible refine (hN.out _ (Ih.out.mem.to0 (by repeat first | with_reducible (first | exact Upd.refl _ _ | assumption | apply Upd.drew | apply Upd.alloc) | refine Upd0.tr ?_ (by with_reducible assumption) | refine Upd.setCell ?_ (fun h => absurd h (by first | exact Nat.lt_irrefl _ | (simp only []; omega))) _))).use ?_); rintro v w1 ⟨rfl, hm1, hu1⟩; have hm1h := Lib.hid hm1; have hlt1 := hm1.lt; obtain ⟨x0, x1, x2, x3⟩ := hm1.cells; clear hm1)
            | (with_reducible refine wp_serial (by kernel_rfl) (by kernel_rfl) (by repeat with_reducible (first | apply NoBad.then | apply NoBad.inBlock | apply NoBad.jump | exact NoBad.rets)) ?_) | fail)
          all_goals go_returns
          all_goals (rw [hres.out]; exact ⟨rfl, hm1h.out.setP b, (Ih.out.upd.tr hu1).tr (UpdT.set t w1 1 _)⟩)
      · by_cases hk63 : k ≤ 63
        · obtain ⟨l, hl⟩ : ∃ l, takS s r1 k = l := ⟨_, rfl⟩
          obtain ⟨r2, hr2⟩ : ∃ r2, takR s r1 k = r2 := ⟨_, rfl⟩
          have hll : l.length ≤ k := by rw [← hl]; exact takS_len s r1 k
          have hp2 : r2.p ≤ 70000 := by rw [← hr2]; exact takR_p s r1 k hp1 hs
          have hT := Lib.hid (fun (w' : World) (h : RkM w' t s r1) => take_w t s r1 k w' h hs hp1 (by omega))
          rw [hl, hr2] at hT
          have hW := Lib.hid (fun (is : Bool) (w' : World) (h : RkM w' t s r2) (hb : is = decide ((out ++ UInt8.ofNat k :: l).length < 255)) => want_is t s r2 is (decide ((out ++ UInt8.ofNat k :: l).length < 255)) 2 (by decide) w' h hb)
          have hres := Lib.hid (hRh.out.trans (naF_lab (f := g + 1) (bg := bg) (bk := bk) (out := out) (by rw [hr1h.out]; exact he1) (by rw [hkh.out]; exact hk0) (by rw [hkh.out]; exact hk63)))
          rw [hr1h.out, hkh.out, hl, hr2] at hres
          obtain ⟨p1, e1⟩ := r1
          simp only [] at he1 hp1 hres hT
          subst he1
          have hk1 : ¬ (k : Int) = 0 := by omega
          have hk64 : (k : Int) ≤ 63 := by omega
          clear hl hr2
          go_wp2_with (first
            | (go_at_call 49; (with_reducible refine (hN.out _ (Ih.out.mem.to0 (by repeat first | with_reducible (first | exact Upd.refl _ _ | assumption | apply Upd.drew | apply Upd.alloc) | refine Upd0.tr ?_ (by with_reducible assumption) | refine Upd.setCell ?_ (fun h => absurd h (by first | exact Nat.lt_irrefl _ | (simp only []; omega))) _))).use ?_); rintro v w1 ⟨rfl, hm1, hu1⟩; have hm1h := Lib.hid hm1; have hlt1 := hm1.lt; obtain ⟨x0, x1, x2, x3⟩ := hm1.cells; clear hm1)
            | (go_at_call 69; (with_reducible refine (hT.out _ (hm1h.out.to0 (by repeat first | with_reducible (first | exact Upd.refl _ _ | assumption | apply Upd.drew | apply Upd.alloc) | refine Upd0.tr ?_ (by with_reducible assumption) | refine Upd.setCell ?_ (fun h => absurd h (by first | exact Nat.lt_irrefl _ | (simp only []; omega))) _))).use ?_); rintro v w2 ⟨rfl, hm2, hu2⟩; have hm2h := Lib.hid hm2; have hlt2 := hm2.lt; obtain ⟨y0, y1, y2, y3⟩ := hm2.cells; clear hm2)
            | (go_at_call 50; (with_reducible refine (hW.out _ _ (hm2h.out.to0 (by repeat first | with_reducible (first | exact Upd.refl _ _ | assumption | apply Upd.drew | apply Upd.alloc) | refine Upd0.tr ?_ (by with_reducible assumption) | refine Upd.setCell ?_ (fun h => absurd h (by first | exact Nat.lt_irrefl _ | (simp only []; omega))) _)) (by first | rfl | exact decide_eq_decide.2 (by simp; omega) | exact decide_eq_decide.2 (by omega))).use ?_); rintro v w3 ⟨rfl, hm3, hu3⟩; have hm3h := Lib.hid hm3; clear hm3)
            | (refine wpList_ofB rfl (.tmp 41) 38 39 rfl 5 Try.underlying38 Try.underlying5 Try.underlying39 rfl (l := [UInt8.ofNat k]) (B := 0) (by first | exact cells_brD (by simp [byt, UInt8.toNat_ofNat']; omega) rfl (alloc_last _ _ _ rfl) (by omega) | exact cells_brD (by simp [byt, UInt8.toNat_ofNat']; omega) rfl (hu2.block (by omega) (alloc_last _ _ _ rfl)) (by omega)) ?_)
            | (with_reducible refine S9.wp_serial10 2 3 4 7 [0,1,2,3,4,5,6,7,8,9,10] [0,1,2,5,6,7,3,4,8,9,10] [0,1,2,3,5,6,7,4,8,9,10] [0,1,5,6,7,2,3,4,8,9,10] [_, _, _, _, _, _, _, _, _, _, _] [_, _, _, _, _, _, _, _, _, _, _] [_, _, _, _, _, _, _, _, _, _, _] [_, _, _, _, _, _, _, _, _, _, _] (by kernel_rfl) (by decide +kernel) rfl rfl rfl rfl (by repeat with_reducible (first | apply NoBad.then | apply NoBad.inBlock | apply NoBad.jump | exact NoBad.rets)) ?_ ?_ ?_ ?_)
            | (with_reducible refine wp_serial (by kernel_rfl) (by kernel_rfl) (by repeat with_reducible (first | apply NoBad.then | apply NoBad.inBlock | apply NoBad.jump | exact NoBad.rets)) ?_) | fail)
          all_goals exact na_lab Ih.out hrre.out hk63 hll rfl hp2 hm3h.out (hu1.tr ((UpdT.of0 (by repeat first | with_reducible (first | exact Upd.refl _ _ | assumption | apply Upd.drew | apply Upd.alloc) | refine Upd0.tr ?_ (by with_reducible assumption) | refine Upd.setCell ?_ (fun h => absurd h (by first | exact Nat.lt_irrefl _ | (simp only []; omega))) _)).tr (hu2.tr ((UpdT.of0 (by repeat first | with_reducible (first | exact Upd.refl _ _ | assumption | apply Upd.drew | apply Upd.alloc) | refine Upd0.tr ?_ (by with_reducible assumption) | refine Upd.setCell ?_ (fun h => absurd h (by first | exact Nat.lt_irrefl _ | (simp only []; omega))) _)).tr hu3)))) hfh.out hres.out
        · obtain ⟨r2, hr2⟩ : ∃ r2, r1.want (decide (192 ≤ k)) 2 = r2 := ⟨_, rfl⟩
          obtain ⟨n, hn⟩ : ∃ n, nuN s r2 1 = n := ⟨_, rfl⟩
          obtain ⟨r3, hr3⟩ : ∃ r3, nuR s r2 1 = r3 := ⟨_, rfl⟩
          have hp2 : r2.p ≤ 70000 := by rw [← hr2, Rk.want_p]; exact hp1
          have hp3 : r3.p ≤ 70000 := by rw [← hr3]; exact takR_p s r2 1 hp2 hs
          have hn2 : n < 256 := by rw [← hn]; exact nuN_1 s r2
          have hres := Lib.hid (hRh.out.trans (naF_ptr (f := g + 1) (bg := bg) (bk := bk) (out := out) hr1h.out hkh.out he1 hk63 hr2 hr3 hn rfl))
          have hbits := ptr_bits k n hk2 hn2
          have hd : ptrN k n ≤ 70000 := by unfold ptrN; omega
          have hW1 := Lib.hid (fun (is : Bool) (w' : World) (h : RkM w' t s r1) (hb : is = decide (192 ≤ k)) => want_is t s r1 is (decide (192 ≤ k)) 2 (by decide) w' h hb)
          rw [hr2] at hW1
          have hN2 := Lib.hid (fun (w' : World) (h : RkM w' t s r2) => num1_w t s r2 w' h hs hp2)
          rw [hn, hr3] at hN2
          have hW2 := Lib.hid (fun (is : Bool) (w' : World) (h : RkM w' t s r3) (hb : is = decide (ptrN k n < bg)) => want_is t s r3 is (decide (ptrN k n < bg)) 2 (by decide) w' h hb)
          obtain ⟨d, hdd⟩ : ∃ d, ptrN k n = d := ⟨_, rfl⟩
          rw [hdd] at hres hbits hd hW2
          obtain ⟨e4, he4⟩ : ∃ e4, (r3.want (decide (d < bg)) 2).e = e4 := ⟨_, rfl⟩
          have hr4 := Lib.hid (show r3.want (decide (d < bg)) 2 = ⟨r3.p, e4⟩ by rw [← he4, ← Rk.want_p r3 (decide (d < bg)) 2])
          have he4h := Lib.hid he4
          rw [hr4.out] at hW2 hres
          obtain ⟨p1, e1⟩ := r1
          simp only [] at he1 hp1 hres
          subst he1
          have hk1 : ¬ (k : Int) = 0 := by omega
          have hk64 : ¬ (k : Int) ≤ 63 := by omega
          clear hr2 hn hr3 hdd he4
          have tk1 : True := trivial
          have tk2 : True := trivial
          cases bk with
          | none =>
            simp only [bkI]
            go_wp2_with (first
              | (go_at_call 49; have _t := tk1; clear tk1 _t; (with_reducible refine (hN.out _ (Ih.out.mem.to0 (by repeat first | with_reducible (first | exact Upd.refl _ _ | assumption | apply Upd.drew | apply Upd.alloc) | refine Upd0.tr ?_ (by with_reducible assumption) | refine Upd.setCell ?_ (fun h => absurd h (by first | exact Nat.lt_irrefl _ | (simp only []; omega))) _))).use ?_); rintro v w1 ⟨rfl, hm1, hu1⟩; have hm1h := Lib.hid hm1; have hlt1 := hm1.lt; obtain ⟨x0, x1, x2, x3⟩ := hm1.cells; clear hm1)
              | (go_at_call 50; have _t := tk2; clear tk2 _t; (with_reducible refine (hW1.out _ _ (hm1h.out.to0 (by repeat first | with_reducible (first | exact Upd.refl _ _ | assumption | apply Upd.drew | apply Upd.alloc) | refine Upd0.tr ?_ (by with_reducible assumption) | refine Upd.setCell ?_ (fun h => absurd h (by first | exact Nat.lt_irrefl _ | (simp only []; omega))) _)) (by first | rfl | exact decide_eq_decide.2 (by omega))).use ?_); rintro v w2 ⟨rfl, hm2, hu2⟩; have hm2h := Lib.hid hm2; have hlt2 := hm2.lt; obtain ⟨y0, y1, y2, y3⟩ := hm2.cells; clear hm2)
              | (go_at_call 49; (with_reducible refine (hN2.out _ (hm2h.out.to0 (by repeat first | with_reducible (first | exact Upd.refl _ _ | assumption | apply Upd.drew | apply Upd.alloc) | refine Upd0.tr ?_ (by with_reducible assumption) | refine Upd.setCell ?_ (fun h => absurd h (by first | exact Nat.lt_irrefl _ | (simp only []; omega))) _))).use ?_); rintro v w3 ⟨rfl, hm3, hu3⟩; have hm3h := Lib.hid hm3; have hlt3 := hm3.lt; obtain ⟨z0, z1, z2, z3⟩ := hm3.cells; clear hm3)
              | (go_at_call 50; (with_reducible refine (hW2.out _ _ (hm3h.out.to0 (by repeat first | with_reducible (first | exact Upd.refl _ _ | assumption | apply Upd.drew | apply Upd.alloc) | refine Upd0.tr ?_ (by with_reducible assumption) | refine Upd.setCell ?_ (fun h => absurd h (by first | exact Nat.lt_irrefl _ | (simp only []; omega))) _)) (by first | rfl | exact decide_eq_decide.2 (by omega))).use ?_); rintro v w4 ⟨rfl, hm4, hu4⟩; have hm4h := Lib.hid hm4; have hlt4 := hm4.lt; obtain ⟨v0, v1, v2, v3⟩ := hm4.cells; clear hm4)
              | (with_reducible refine wp_serial (by kernel_rfl) (by kernel_rfl) (by repeat with_reducible (first | apply NoBad.then | apply NoBad.inBlock | apply NoBad.jump | exact NoBad.rets)) ?_) | fail)
            all_goals exact na_ptr (bk' := some r3.p) Ih.out hrre.out hd hp3 (by rw [he4h.out]; exact hm4h.out.setP d) (hu1.tr ((UpdT.of0 (by repeat first | with_reducible (first | exact Upd.refl _ _ | assumption | apply Upd.drew | apply Upd.alloc) | refine Upd0.tr ?_ (by with_reducible assumption) | refine Upd.setCell ?_ (fun h => absurd h (by first | exact Nat.lt_irrefl _ | (simp only []; omega))) _)).tr (hu2.tr ((UpdT.of0 (by repeat first | with_reducible (first | exact Upd.refl _ _ | assumption | apply Upd.drew | apply Upd.alloc) | refine Upd0.tr ?_ (by with_reducible assumption) | refine Upd.setCell ?_ (fun h => absurd h (by first | exact Nat.lt_irrefl _ | (simp only []; omega))) _)).tr (hu3.tr ((UpdT.of0 (by repeat first | with_reducible (first | exact Upd.refl _ _ | assumption | apply Upd.drew | apply Upd.alloc) | refine Upd0.tr ?_ (by with_reducible assumption) | refine Upd.setCell ?_ (fun h => absurd h (by first | exact Nat.lt_irrefl _ | (simp only []; omega))) _)).tr (hu4.tr (UpdT.set t w4 1 _)))))))) hfh.out (by rw [he4h.out]; exact hres.out)
          | some b =>
            simp only [bkI]
            go_wp2_with (first
              | (go_at_call 49; have _t := tk1; clear tk1 _t; (with_reducible refine (hN.out _ (Ih.out.mem.to0 (by repeat first | with_reducible (first | exact Upd.refl _ _ | assumption | apply Upd.drew | apply Upd.alloc) | refine Upd0.tr ?_ (by with_reducible assumption) | refine Upd.setCell ?_ (fun h => absurd h (by first | exact Nat.lt_irrefl _ | (simp only []; omega))) _))).use ?_); rintro v w1 ⟨rfl, hm1, hu1⟩; have hm1h := Lib.hid hm1; have hlt1 := hm1.lt; obtain ⟨x0, x1, x2, x3⟩ := hm1.cells; clear hm1)
              | (go_at_call 50; have _t := tk2; clear tk2 _t; (with_reducible refine (hW1.out _ _ (hm1h.out.to0 (by repeat first | with_reducible (first | exact Upd.refl _ _ | assumption | apply Upd.drew | apply Upd.alloc) | refine Upd0.tr ?_ (by with_reducible assumption) | refine Upd.setCell ?_ (fun h => absurd h (by first | exact Nat.lt_irrefl _ | (simp only []; omega))) _)) (by first | rfl | exact decide_eq_decide.2 (by omega))).use ?_); rintro v w2 ⟨rfl, hm2, hu2⟩; have hm2h := Lib.hid hm2; have hlt2 := hm2.lt; obtain ⟨y0, y1, y2, y3⟩ := hm2.cells; clear hm2)
              | (go_at_call 49; (with_reducible refine (hN2.out _ (hm2h.out.to0 (by repeat first | with_reducible (first | exact Upd.refl _ _ | assumption | apply Upd.drew | apply Upd.alloc) | refine Upd0.tr ?_ (by with_reducible assumption) | refine Upd.setCell ?_ (fun h => absurd h (by first | exact Nat.lt_irrefl _ | (simp only []; omega))) _))).use ?_); rintro v w3 ⟨rfl, hm3, hu3⟩; have hm3h := Lib.hid hm3; have hlt3 := hm3.lt; obtain ⟨z0, z1, z2, z3⟩ := hm3.cells; clear hm3)
              | (go_at_call 50; (with_reducible refine (hW2.out _ _ (hm3h.out.to0 (by repeat first | with_reducible (first | exact Upd.refl _ _ | assumption | apply Upd.drew | apply Upd.alloc) | refine Upd0.tr ?_ (by with_reducible assumption) | refine Upd.setCell ?_ (fun h => absurd h (by first | exact Nat.lt_irrefl _ | (simp only []; omega))) _)) (by first | rfl | exact decide_eq_decide.2 (by omega))).use ?_); rintro v w4 ⟨rfl, hm4, hu4⟩; have hm4h := Lib.hid hm4; have hlt4 := hm4.lt; obtain ⟨v0, v1, v2, v3⟩ := hm4.cells; clear hm4)
              | (with_reducible refine wp_serial (by kernel_rfl) (by kernel_rfl) (by repeat with_reducible (first | apply NoBad.then | apply NoBad.inBlock | apply NoBad.jump | exact NoBad.rets)) ?_) | fail)
            all_goals exact na_ptr (bk' := some b) Ih.out hrre.out hd (show (some b).getD 0 ≤ 70000 from Ih.out.kk) (by rw [he4h.out]; exact hm4h.out.setP d) (hu1.tr ((UpdT.of0 (by repeat first | with_reducible (first | exact Upd.refl _ _ | assumption | apply Upd.drew | apply Upd.alloc) | refine Upd0.tr ?_ (by with_reducible assumption) | refine Upd.setCell ?_ (fun h => absurd h (by first | exact Nat.lt_irrefl _ | (simp only []; omega))) _)).tr (hu2.tr ((UpdT.of0 (by repeat first | with_reducible (first | exact Upd.refl _ _ | assumption | apply Upd.drew | apply Upd.alloc) | refine Upd0.tr ?_ (by with_reducible assumption) | refine Upd.setCell ?_ (fun h => absurd h (by first | exact Nat.lt_irrefl _ | (simp only []; omega))) _)).tr (hu3.tr ((UpdT.of0 (by repeat first | with_reducible (first | exact Upd.refl _ _ | assumption | apply Upd.drew | apply Upd.alloc) | refine Upd0.tr ?_ (by with_reducible assumption) | refine Upd.setCell ?_ (fun h => absurd h (by first | exact Nat.lt_irrefl _ | (simp only []; omega))) _)).tr (hu4.tr (UpdT.set t w4 1 _)))))))) hfh.out (by rw [he4h.out]; exact hres.out)
    · have hres := Lib.hid (hRh.out.trans (naF_bad (by rw [hr1h.out]; exact he1)))
      rw [hr1h.out] at hres
      obtain ⟨p1, e1⟩ := r1
      simp only [] at he1 hp1 hres
      cases bk with
      | none =>
        simp only [bkI]
        go_wp2_with (first
          | (go_at_call 49; (with_reducible refine (hN.out _ (Ih.out.mem.to0 (by repeat first | with_reducible (first | exact Upd.refl _ _ | assumption | apply Upd.drew | apply Upd.alloc) | refine Upd0.tr ?_ (by with_reducible assumption) | refine Upd.setCell ?_ (fun h => absurd h (by first | exact Nat.lt_irrefl _ | (simp only []; omega))) _))).use ?_); rintro v w1 ⟨rfl, hm1, hu1⟩; have hm1h := Lib.hid hm1; obtain ⟨x0, x1, x2, x3⟩ := hm1.cells; clear hm1)
          | (with_reducible refine wp_serial (by kernel_rfl) (by kernel_rfl) (by repeat with_reducible (first | apply NoBad.then | apply NoBad.inBlock | apply NoBad.jump | exact NoBad.rets)) ?_) | fail)
        all_goals go_returns
        all_goals (rw [hres.out]; exact ⟨rfl, hm1h.out, Ih.out.upd.tr hu1⟩)
      | some b =>
        simp only [bkI]
        go_wp2_with (first
          | (go_at_call 49; (with_reducible refine (hN.out _ (Ih.out.mem.to0 (by repeat first | with_reducible (first | exact Upd.refl _ _ | assumption | apply Upd.drew | apply Upd.alloc) | refine Upd0.tr ?_ (by with_reducible assumption) | refine Upd.setCell ?_ (fun h => absurd h (by first | exact Nat.lt_irrefl _ | (simp only []; omega))) _))).use ?_); rintro v w1 ⟨rfl, hm1, hu1⟩; have hm1h := Lib.hid hm1; obtain ⟨x0, x1, x2, x3⟩ := hm1.cells; clear hm1)
          | (with_reducible refine wp_serial (by kernel_rfl) (by kernel_rfl) (by repeat with_reducible (first | apply NoBad.then | apply NoBad.inBlock | apply NoBad.jump | exact NoBad.rets)) ?_) | fail)
        all_goals go_returns
        all_goals (rw [hres.out]; exact ⟨rfl, hm1h.out.setP b, (Ih.out.upd.tr hu1).tr (UpdT.set t w1 1 _)⟩)
end Go.Proofs.Ytgdejgfmhndbhaa
