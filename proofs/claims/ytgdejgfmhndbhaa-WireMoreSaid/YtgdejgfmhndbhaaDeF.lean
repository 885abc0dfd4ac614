/-
  The program's reader of messages: records.
-/
import Derived.Test.YtgdejgfmhndbhaaDeE
import Derived.Test.YtgdejgfmhndbhaaRfM
import Derived.Test.YtgdejgfmhndbhaaKh
namespace Go.Proofs.Ytgdejgfmhndbhaa
open Go.RowKit
set_option linter.unusedSimpArgs false
set_option linter.unusedVariables false
theorem eqI (a : Nat) (b : Int) (c : Nat) (h : b = (c : Nat)) : ((a : Int) == b) = decide (a = c) := by
  subst h
  by_cases h : a = c
  · rw [decide_eq_true h, beq_iff_eq]; omega
  · rw [decide_eq_false h, beq_eq_false_iff_ne]; omega
theorem eqZ (c : Int) : (c == 0) = decide (c = 0) := rfl
theorem flag_o (b : Bool) (w : World) : Calls Try.prog 32 #[.bool b, .int .i64 1] w (Rets fun r w' => r = .int .i64 ((b2n b 1 : Nat) : Int) ∧ Upd0 w w') := flag_w b 1 w
theorem RkM.other {w : World} {t : Nat} {s : Bs} {r : Rk} (h : RkM w t s r) {b : Nat} (hb : ¬ b = t) (i : Nat) (v : Value) : RkM (w.setCell ⟨b, i, none⟩ v) t s r := by
  unfold RkM; rw [blk_set_other (fun e => hb e.symm)]; exact h
structure XI (t : Nat) (s : Bs) (w0 : World) (b : Nat) (nm : Bs) (ty tl : Int) (d : Bs) (r : Rk) (W : World) : Prop where
  mem : RkM W t s r
  blk : W.heap[b]? = some (.cells #[.string ⟨nm.toArray⟩, .int .i64 ty, .int .i64 tl, .string ⟨d.toArray⟩] 46 (0, 0))
  upd : UpdT t w0 W
  lo : w0.heap.size ≤ b
  tl : t < w0.heap.size
theorem XI.ne {t : Nat} {s : Bs} {w0 : World} {b : Nat} {nm : Bs} {ty tl : Int} {d : Bs} {r : Rk} {W : World} (h : XI t s w0 b nm ty tl d r W) : ¬ b = t ∧ ¬ t = b := by have := h.lo; have := h.tl; omega
theorem XI.new {t : Nat} {s : Bs} {w0 w1 : World} {nm : Bs} {r : Rk} (hm : RkM w1 t s r) (hu : UpdT t w0 w1) (ht : t < w0.heap.size) : XI t s w0 w1.heap.size nm 0 0 [] r (w1.alloc (.cells #[.string ⟨nm.toArray⟩, .int .i64 0, .int .i64 0, .string ⟨#[]⟩] 46 (0, 0))) :=
  ⟨hm.to0 (by repeat first | with_reducible (first | exact Upd.refl _ _ | assumption | apply Upd.drew | apply Upd.alloc) | refine Upd0.tr ?_ (by with_reducible assumption) | refine Upd.setCell ?_ (fun h => absurd h (by first | exact Nat.lt_irrefl _ | (simp only []; omega))) _), alloc_last _ _ _ rfl, hu.alloc _, hu.size, ht⟩
theorem XI.call {t : Nat} {s : Bs} {w0 : World} {b : Nat} {nm : Bs} {ty tl : Int} {d : Bs} {r r' : Rk} {W W' : World} (h : XI t s w0 b nm ty tl d r W) (hm : RkM W' t s r') (hu : UpdT t W W') : XI t s w0 b nm ty tl d r' W' :=
  ⟨hm, hu.block h.ne.1 h.blk, h.upd.tr hu, h.lo, h.tl⟩
theorem XI.up0 {t : Nat} {s : Bs} {w0 : World} {b : Nat} {nm : Bs} {ty tl : Int} {d : Bs} {r : Rk} {W W' : World} (h : XI t s w0 b nm ty tl d r W) (hu : Upd0 W W') : XI t s w0 b nm ty tl d r W' := h.call (h.mem.to0 hu) (UpdT.of0 hu)
theorem XI.set1 {t : Nat} {s : Bs} {w0 : World} {b : Nat} {nm : Bs} {ty tl : Int} {d : Bs} {r : Rk} {W : World} (h : XI t s w0 b nm ty tl d r W) (x : Int) : XI t s w0 b nm x tl d r (W.setCell ⟨b, 1, none⟩ (.int .i64 x)) :=
  ⟨h.mem.other h.ne.1 _ _, by simpa using blk_set h.blk 1 (.int .i64 x), h.upd.setCell (p := ⟨b, 1, none⟩) (fun k => absurd k (by have := h.lo; simp only []; omega)) _, h.lo, h.tl⟩
theorem XI.set2 {t : Nat} {s : Bs} {w0 : World} {b : Nat} {nm : Bs} {ty tl : Int} {d : Bs} {r : Rk} {W : World} (h : XI t s w0 b nm ty tl d r W) (x : Int) : XI t s w0 b nm ty x d r (W.setCell ⟨b, 2, none⟩ (.int .i64 x)) :=
  ⟨h.mem.other h.ne.1 _ _, by simpa using blk_set h.blk 2 (.int .i64 x), h.upd.setCell (p := ⟨b, 2, none⟩) (fun k => absurd k (by have := h.lo; simp only []; omega)) _, h.lo, h.tl⟩
theorem XI.set3 {t : Nat} {s : Bs} {w0 : World} {b : Nat} {nm : Bs} {ty tl : Int} {d : Bs} {r : Rk} {W : World} (h : XI t s w0 b nm ty tl d r W) (x : Bs) : XI t s w0 b nm ty tl x r (W.setCell ⟨b, 3, none⟩ (.string ⟨x.toArray⟩)) :=
  ⟨h.mem.other h.ne.1 _ _, by simpa using blk_set h.blk 3 (.string ⟨x.toArray⟩), h.upd.setCell (p := ⟨b, 3, none⟩) (fun k => absurd k (by have := h.lo; simp only []; omega)) _, h.lo, h.tl⟩
def RecsQ (t : Nat) (s : Bs) (w : World) (R : (List Rc × Nat) × Rk) (v : Value) (w' : World) : Prop :=
  ∃ ao cap, v = .tuple #[.slice ao R.1.1.length cap, .int .i64 (R.1.2 : Nat)] ∧ RsR w' ao R.1.1 ∧ RkM w' t s R.2 ∧ UpdT t w w' ∧ ∀ g o, ao = some ⟨g, o, none⟩ → w.heap.size ≤ g
structure RcJ (t : Nat) (s : Bs) (w : World) (R : (List Rc × Nat) × Rk) (last : Bool) (n k : Nat) (rr : Rk) (l : List Rc) (ao : Option Addr) (cap : Nat) (wr : World) : Prop where
  mem : RkM wr t s rr
  upd : UpdT t w wr
  pp : rr.p ≤ 70000
  len : l.length = k
  kn : k ≤ n
  own : wr.ownsRow 0 46 4 (.slice ao k cap) k (l.flatMap Rc.cells)
  fre : ∀ g, (Value.slice ao k cap).ownBlock = some g → w.heap.size ≤ g
  res : R = rcF s last n (n - k) k rr l
theorem rcj_next {t : Nat} {s : Bs} {w : World} {R : (List Rc × Nat) × Rk} {last : Bool} {n k : Nat} {rr r' : Rk} {l : List Rc} {ao ao' : Option Addr} {cap cap' : Nat} {wr W W' : World} {x : Rc}
    (J : RcJ t s w R last n k rr l ao cap wr) (ht : t < w.heap.size) (hu : UpdT t wr W) (hm : RkM W t s r') (hp : r'.p ≤ 70000) (hk : k < n)
    (hrow : W'.ownsRow 0 46 4 (.slice ao' (k + 1) cap') (k + 1) (l.flatMap Rc.cells ++ x.cells)) (hap : Upd (fun g => (Value.slice ao k cap).ownBlock = some g) W W') (hf : Fresh W (.slice ao k cap) (.slice ao' (k + 1) cap'))
    (hres : R = rcF s last n (n - (k + 1)) (k + 1) r' (l ++ [x])) : RcJ t s w R last n (k + 1) r' (l ++ [x]) ao' cap' W' := by
  have hne : ¬ (Value.slice ao k cap).ownBlock = some t := fun e => by have := J.fre t e; omega
  have hs1 := J.upd.size
  have hs2 := hu.size
  refine ⟨hap.block hne hm, ?_, hp, by simp [J.len], hk, by simpa using hrow, fun g hg => ?_, hres⟩
  · exact Upd.trans (J.upd.tr hu) hap (fun g hg e => absurd (J.fre g e) (by omega))
  · rcases hf g hg with e | e
    · exact J.fre g e
    · omega
theorem leI (n b : Nat) : decide ((n : Int) ≤ 200 + (b : Int)) = decide (n ≤ 200 + b) := decide_eq_decide.2 (by omega)
theorem nuN_2' (s : Bs) (r : Rk) : nuN s r 2 < 65536 := by
  have h1 := num_lt (takS s r 2)
  have h2 := takS_len s r 2
  have h3 : 256 ^ (takS s r 2).length ≤ 256 ^ 2 := Nat.pow_le_pow_right (by decide) h2
  exact Nat.lt_of_lt_of_le h1 (Nat.le_trans h3 (by decide))
set_option maxRecDepth 100000 in
set_option maxHeartbeats 16000000 in
theorem recs_w (t : Nat) (s : Bs) (r : Rk) (n : Nat) (last : Bool) (w : World) (h : RkM w t s r) (hs : s.length ≤ 70000) (hp : r.p ≤ 70000) (hn : n ≤ 65535) :
    Calls Try.prog 52 #[.pointer (some ⟨t, 0, none⟩), .int .i64 n, .bool last] w (Rets fun v w' => RecsQ t s w (rcR s r n last) v w') := by
  obtain ⟨i0, hi, hz0, hz1, hz2⟩ := info_parts info_r
  obtain ⟨R, hR⟩ : ∃ R, rcR s r n last = R := ⟨_, rfl⟩
  have hlt := h.lt
  have hlb := leI n (b2n last 1)
  have hb1 : b2n last 1 ≤ 1 := by unfold b2n; split <;> omega
  have hW := Lib.hid (fun (is : Bool) (w' : World) (h : RkM w' t s r) (hb : is = decide (n ≤ 200 + b2n last 1)) => want_is t s r is (decide (n ≤ 200 + b2n last 1)) 2 (by decide) w' h hb)
  have hp0 : (rcW last n r).p ≤ 70000 := by rw [rcW, Rk.want_p]; exact hp
  have hR0 := Lib.hid (show R = rcF s last n n 0 (rcW last n r) [] from hR.symm)
  have hrw : r.want (decide (n ≤ 200 + b2n last 1)) 2 = rcW last n r := rfl
  rw [hR]
  rw [hrw] at hW
  obtain ⟨r0, hr0⟩ : ∃ r0, rcW last n r = r0 := ⟨_, rfl⟩
  rw [hr0] at hW hp0 hR0
  have hh := Lib.hid h
  clear h hR hr0 hrw
  go_enter Try.func52, Try.ntmps52
  go_wp2_with (first
    | (go_at_call 32; (with_reducible refine (flag_o last _).use ?_); rintro v w1 ⟨rfl, hu1⟩)
    | (go_at_call 50; (with_reducible refine (hW.out _ _ (hh.out.to0 (by repeat first | with_reducible (first | exact Upd.refl _ _ | assumption | apply Upd.drew | apply Upd.alloc) | refine Upd0.tr ?_ (by with_reducible assumption) | refine Upd.setCell ?_ (fun h => absurd h (by first | exact Nat.lt_irrefl _ | (simp only []; omega))) _)) rfl).use ?_); rintro v w2 ⟨rfl, hm2, hu2⟩; have hm2h := Lib.hid hm2; have hut := Lib.hid (show UpdT t w w2 from (UpdT.of0 (by repeat first | with_reducible (first | exact Upd.refl _ _ | assumption | apply Upd.drew | apply Upd.alloc) | refine Upd0.tr ?_ (by with_reducible assumption) | refine Upd.setCell ?_ (fun h => absurd h (by first | exact Nat.lt_irrefl _ | (simp only []; omega))) _)).tr hu2); clear hm2)
    | (with_reducible refine wp_serial (by kernel_rfl) (by kernel_rfl) (by repeat with_reducible (first | apply NoBad.then | apply NoBad.inBlock | apply NoBad.jump | exact NoBad.rets)) ?_) | fail)
  go_loopw [6, 8] (fun x i wr => ∃ (k : Nat) (rr : Rk) (l : List Rc) (ao : Option Addr) (cap : Nat), x = .slice ao k cap ∧ i = .int .i64 k ∧ RcJ t s w R last n k rr l ao cap wr) (fun _ i _ => n - (intOf i).toNat)
  case atStart => exact ⟨0, r0, [], none, 0, rfl, rfl, hm2h.out, hut.out, hp0, rfl, Nat.zero_le _, ⟨rfl, .inl ⟨rfl, rfl⟩⟩, fun g hg => by simp [Value.ownBlock] at hg, hR0.out⟩
  case round =>
    obtain ⟨k, rr, l, ao, cap, rfl, rfl, J⟩ := hrel
    have Jh := Lib.hid J
    have hpp := J.pp
    have hkn := J.kn
    have hwr := J.mem.lt
    obtain ⟨c0, c1, c2, c3⟩ := J.mem.cells
    clear J
    by_cases hlt2 : k < n
    · obtain ⟨f, hf⟩ : ∃ f, n - k = f + 1 := ⟨n - (k + 1), by omega⟩
      have hf2 := Lib.hid (show n - (k + 1) = f by omega)
      have hres := Lib.hid (show R = rcF s last n (f + 1) k rr l from hf ▸ Jh.out.res)
      have hlt3 : (k : Int) < (n : Int) := by omega
      clear hf
      by_cases he : rr.e = 0
      rotate_left
      · have hres2 := Lib.hid (show R = ((l, 0), rr) from hres.out.trans (by rw [rcF, if_neg he]))
        have heh := Lib.hid he
        go_wp2_with (first | (with_reducible refine wp_serial (by kernel_rfl) (by kernel_rfl) (by repeat with_reducible (first | apply NoBad.then | apply NoBad.inBlock | apply NoBad.jump | exact NoBad.rets)) ?_) | fail)
        go_returns
        rw [hres2.out]
        exact ⟨ao, cap, by rw [Jh.out.len]; rfl, own_rsr Jh.out.own (by rw [Jh.out.len]), Jh.out.mem, Jh.out.upd, fun g o e => Jh.out.fre g (by rw [e]; rfl)⟩
      · obtain ⟨nm, hnm⟩ : ∃ x, qhN s rr = x := ⟨_, rfl⟩
        obtain ⟨rA, hrA⟩ : ∃ x, qhA s rr = x := ⟨_, rfl⟩
        obtain ⟨ty, hty⟩ : ∃ x, qhT s rr = x := ⟨_, rfl⟩
        obtain ⟨rB, hrB⟩ : ∃ x, qhB s rr = x := ⟨_, rfl⟩
        obtain ⟨cl, hcl⟩ : ∃ x, qhC s rr = x := ⟨_, rfl⟩
        obtain ⟨rC, hrC⟩ : ∃ x, qhR s rr = x := ⟨_, rfl⟩
        have hpA : rA.p ≤ 70000 := by rw [← hrA]; exact (naR_fin hs hpp).2
        have hlN : nm.length < 255 := by rw [← hnm]; exact (naR_fin hs hpp).1
        have hpB : rB.p ≤ 70000 := by rw [← hrB, qhB, hrA]; exact takR_p s rA 2 hpA hs
        have hpC : rC.p ≤ 70000 := by rw [← hrC, qhR, hrB]; exact takR_p s rB 2 hpB hs
        have hty2 : ty < 65536 := by rw [← hty]; exact nuN_2' _ _
        have hN0 := Lib.hid (fun (w' : World) (h : RkM w' t s rr) => rname_dw t s rr w' h hs hpp)
        have e1 : (naR s rr).1 = nm := hnm
        have e2 : (naR s rr).2 = rA := hrA
        rw [e1, e2] at hN0
        have hN1 := Lib.hid (fun (w' : World) (h : RkM w' t s rA) => num2_w t s rA w' h hs hpA)
        have e3 : nuN s rA 2 = ty := by rw [← hty, qhT, hrA]
        have e4 : nuR s rA 2 = rB := by rw [← hrB, qhB, hrA]
        rw [e3, e4] at hN1
        have hN2 := Lib.hid (fun (w' : World) (h : RkM w' t s rB) => num2_w t s rB w' h hs hpB)
        have e5 : nuN s rB 2 = cl := by rw [← hcl, qhC, hrB]
        have e6 : nuR s rB 2 = rC := by rw [← hrC, qhR, hrB]
        rw [e5, e6] at hN2
        clear e1 e2 e3 e4 e5 e6
        obtain ⟨pp, ee⟩ := rr
        simp only [] at he
        subst he
        by_cases ho : ty = 41 ∧ rC.e = 0
        · obtain ⟨rfl, heC⟩ := ho
          obtain ⟨tt, htt⟩ : ∃ x, opN s rC = x := ⟨_, rfl⟩
          obtain ⟨rD, hrD⟩ : ∃ x, opA s rC = x := ⟨_, rfl⟩
          obtain ⟨kk, hkk⟩ : ∃ x, opK s rC = x := ⟨_, rfl⟩
          obtain ⟨rE, hrE⟩ : ∃ x, opB s rC = x := ⟨_, rfl⟩
          have hpD : rD.p ≤ 70000 := by rw [← hrD]; exact takR_p s rC 4 hpC hs
          have hN3 := Lib.hid (fun (w' : World) (h : RkM w' t s rC) => num4_w t s rC w' h hs hpC)
          have e1 : nuN s rC 4 = tt := htt
          have e2 : nuR s rC 4 = rD := hrD
          rw [e1, e2] at hN3
          have hN4 := Lib.hid (fun (w' : World) (h : RkM w' t s rD) => num2_w t s rD w' h hs hpD)
          have e3 : nuN s rD 2 = kk := by rw [← hkk, opK, hrD]
          have e4 : nuR s rD 2 = rE := by rw [← hrE, opB, hrD]
          rw [e3, e4] at hN4
          have hWo := Lib.hid (fun (is : Bool) (w' : World) (h : RkM w' t s rE) (hb : is = opOk last k n nm cl tt kk) => want_is t s rE is (opOk last k n nm cl tt kk) 2 (by decide) w' h hb)
          have hres2 := Lib.hid (show R = ((l, cl), rE.want (opOk last k n nm cl tt kk) 2) from hres.out.trans (by rw [rcF, if_pos rfl, hty, hrC, if_pos ⟨rfl, heC⟩, hcl, hnm, htt, hkk, hrE]))
          clear hnm hrA hty hrB hcl hrC htt hrD hkk hrE e1 e2 e3 e4
          obtain ⟨rW, hrW⟩ : ∃ x, rE.want (opOk last k n nm cl tt kk) 2 = x := ⟨_, rfl⟩
          rw [hrW] at hWo hres2
          clear hrW
          obtain ⟨pC, eC⟩ := rC
          simp only [] at heC
          subst heC
          have ways : last = false ∨ (last = true ∧ ¬ k + 1 = n) ∨ (last = true ∧ k + 1 = n ∧ ¬ nm = []) ∨ (last = true ∧ k + 1 = n ∧ nm = [] ∧ ¬ 512 ≤ cl) ∨ (last = true ∧ k + 1 = n ∧ nm = [] ∧ 512 ≤ cl ∧ ¬ tt = 0) ∨ (last = true ∧ k + 1 = n ∧ nm = [] ∧ 512 ≤ cl ∧ tt = 0) := by
            by_cases a1 : last = false
            · exact .inl a1
            · have a1 : last = true := by simpa using a1
              by_cases a2 : k + 1 = n
              · by_cases a3 : nm = []
                · by_cases a4 : 512 ≤ cl
                  · by_cases a5 : tt = 0
                    · exact .inr (.inr (.inr (.inr (.inr ⟨a1, a2, a3, a4, a5⟩))))
                    · exact .inr (.inr (.inr (.inr (.inl ⟨a1, a2, a3, a4, a5⟩))))
                  · exact .inr (.inr (.inr (.inl ⟨a1, a2, a3, a4⟩)))
                · exact .inr (.inr (.inl ⟨a1, a2, a3⟩))
              · exact .inr (.inl ⟨a1, a2⟩)
          have tk1 : True := trivial
          have tk2 : True := trivial
          have tk3 : True := trivial
          have tk4 : True := trivial
          rcases ways with a | a | a | a | a | a
          · subst a
            have hop : opOk false k n nm cl tt kk = false := rfl
            rw [hop] at hWo
            clear hop
            go_wp2_with (first
              | (go_at_call 51; (with_reducible refine (hN0.out _ (Jh.out.mem.to0 (by repeat first | with_reducible (first | exact Upd.refl _ _ | assumption | apply Upd.drew | apply Upd.alloc) | refine Upd0.tr ?_ (by with_reducible assumption) | refine Upd.setCell ?_ (fun h => absurd h (by first | exact Nat.lt_irrefl _ | (simp only []; omega))) _))).use ?_); rintro v w1 ⟨rfl, hm1, hu1⟩; have X1 := Lib.hid (XI.new (nm := nm) hm1 hu1 hwr); clear hm1)
              | (go_at_call 49; have _t := tk1; clear tk1 _t; (with_reducible refine (hN1.out _ X1.out.mem).use ?_); rintro v w2 ⟨rfl, hm2, hu2⟩; have X2 := Lib.hid (X1.out.call hm2 hu2); obtain ⟨y2a, y2b, y2c, y2d, y2e⟩ := four X2.out.blk; obtain ⟨z2a, z2b, z2c, z2d⟩ := X2.out.mem.cells; have hl2a := blk_lt X2.out.blk; have hl2b := X2.out.mem.lt; clear hm2)
              | (go_at_call 49; have _t := tk2; clear tk2 _t; (with_reducible refine (hN2.out _ (X2.out.set1 _).mem).use ?_); rintro v w3 ⟨rfl, hm3, hu3⟩; have X3 := Lib.hid ((X2.out.set1 _).call hm3 hu3); obtain ⟨y3a, y3b, y3c, y3d, y3e⟩ := four X3.out.blk; obtain ⟨z3a, z3b, z3c, z3d⟩ := X3.out.mem.cells; have hl3a := blk_lt X3.out.blk; have hl3b := X3.out.mem.lt; clear hm3)
              | (go_at_call 49; have _t := tk3; clear tk3 _t; (with_reducible refine (hN3.out _ X3.out.mem).use ?_); rintro v w4 ⟨rfl, hm4, hu4⟩; have X4 := Lib.hid (X3.out.call hm4 hu4); obtain ⟨y4a, y4b, y4c, y4d, y4e⟩ := four X4.out.blk; obtain ⟨z4a, z4b, z4c, z4d⟩ := X4.out.mem.cells; have hl4a := blk_lt X4.out.blk; have hl4b := X4.out.mem.lt; clear hm4)
              | (go_at_call 49; have _t := tk4; clear tk4 _t; (with_reducible refine (hN4.out _ X4.out.mem).use ?_); rintro v w5 ⟨rfl, hm5, hu5⟩; have X5 := Lib.hid (X4.out.call hm5 hu5); obtain ⟨y5a, y5b, y5c, y5d, y5e⟩ := four X5.out.blk; obtain ⟨z5a, z5b, z5c, z5d⟩ := X5.out.mem.cells; have hl5a := blk_lt X5.out.blk; have hl5b := X5.out.mem.lt; clear hm5)
              | (go_at_call 50; (with_reducible refine (hWo.out _ _ X5.out.mem rfl).use ?_); rintro v w6 ⟨rfl, hm6, hu6⟩; have X6 := Lib.hid (X5.out.call hm6 hu6); clear hm6)
              | (with_reducible refine wp_serial (by kernel_rfl) (by kernel_rfl) (by repeat with_reducible (first | apply NoBad.then | apply NoBad.inBlock | apply NoBad.jump | exact NoBad.rets)) ?_) | fail)
            go_returns
            rw [hres2.out]
            exact ⟨ao, cap, by rw [Jh.out.len]; rfl, own_rsr (ownsRow_upd Jh.out.own X6.out.upd (fun g hg e => by have := Jh.out.fre g hg; omega)) (by rw [Jh.out.len]), X6.out.mem, Jh.out.upd.tr X6.out.upd, fun g o e => Jh.out.fre g (by rw [e]; rfl)⟩
          · obtain ⟨rfl, a2⟩ := a
            have a3 : ¬ (k : Int) = (n : Int) - 1 := by omega
            have a4 : ((k : Int) == (n : Int) - 1) = false := beq_eq_false_iff_ne.2 a3
            have hop : opOk true k n nm cl tt kk = false := by simp [opOk, a2]
            rw [hop] at hWo
            clear hop
            go_wp2_with (first
              | (go_at_call 51; (with_reducible refine (hN0.out _ (Jh.out.mem.to0 (by repeat first | with_reducible (first | exact Upd.refl _ _ | assumption | apply Upd.drew | apply Upd.alloc) | refine Upd0.tr ?_ (by with_reducible assumption) | refine Upd.setCell ?_ (fun h => absurd h (by first | exact Nat.lt_irrefl _ | (simp only []; omega))) _))).use ?_); rintro v w1 ⟨rfl, hm1, hu1⟩; have X1 := Lib.hid (XI.new (nm := nm) hm1 hu1 hwr); clear hm1)
              | (go_at_call 49; have _t := tk1; clear tk1 _t; (with_reducible refine (hN1.out _ X1.out.mem).use ?_); rintro v w2 ⟨rfl, hm2, hu2⟩; have X2 := Lib.hid (X1.out.call hm2 hu2); obtain ⟨y2a, y2b, y2c, y2d, y2e⟩ := four X2.out.blk; obtain ⟨z2a, z2b, z2c, z2d⟩ := X2.out.mem.cells; have hl2a := blk_lt X2.out.blk; have hl2b := X2.out.mem.lt; clear hm2)
              | (go_at_call 49; have _t := tk2; clear tk2 _t; (with_reducible refine (hN2.out _ (X2.out.set1 _).mem).use ?_); rintro v w3 ⟨rfl, hm3, hu3⟩; have X3 := Lib.hid ((X2.out.set1 _).call hm3 hu3); obtain ⟨y3a, y3b, y3c, y3d, y3e⟩ := four X3.out.blk; obtain ⟨z3a, z3b, z3c, z3d⟩ := X3.out.mem.cells; have hl3a := blk_lt X3.out.blk; have hl3b := X3.out.mem.lt; clear hm3)
              | (go_at_call 49; have _t := tk3; clear tk3 _t; (with_reducible refine (hN3.out _ X3.out.mem).use ?_); rintro v w4 ⟨rfl, hm4, hu4⟩; have X4 := Lib.hid (X3.out.call hm4 hu4); obtain ⟨y4a, y4b, y4c, y4d, y4e⟩ := four X4.out.blk; obtain ⟨z4a, z4b, z4c, z4d⟩ := X4.out.mem.cells; have hl4a := blk_lt X4.out.blk; have hl4b := X4.out.mem.lt; clear hm4)
              | (go_at_call 49; have _t := tk4; clear tk4 _t; (with_reducible refine (hN4.out _ X4.out.mem).use ?_); rintro v w5 ⟨rfl, hm5, hu5⟩; have X5 := Lib.hid (X4.out.call hm5 hu5); obtain ⟨y5a, y5b, y5c, y5d, y5e⟩ := four X5.out.blk; obtain ⟨z5a, z5b, z5c, z5d⟩ := X5.out.mem.cells; have hl5a := blk_lt X5.out.blk; have hl5b := X5.out.mem.lt; clear hm5)
              | (go_at_call 50; (with_reducible refine (hWo.out _ _ X5.out.mem rfl).use ?_); rintro v w6 ⟨rfl, hm6, hu6⟩; have X6 := Lib.hid (X5.out.call hm6 hu6); clear hm6)
              | (with_reducible refine wp_serial (by kernel_rfl) (by kernel_rfl) (by repeat with_reducible (first | apply NoBad.then | apply NoBad.inBlock | apply NoBad.jump | exact NoBad.rets)) ?_) | fail)
            go_returns
            rw [hres2.out]
            exact ⟨ao, cap, by rw [Jh.out.len]; rfl, own_rsr (ownsRow_upd Jh.out.own X6.out.upd (fun g hg e => by have := Jh.out.fre g hg; omega)) (by rw [Jh.out.len]), X6.out.mem, Jh.out.upd.tr X6.out.upd, fun g o e => Jh.out.fre g (by rw [e]; rfl)⟩
          · obtain ⟨rfl, a2, a3⟩ := a
            obtain ⟨c, m, rfl⟩ : ∃ c m, nm = c :: m := by cases nm with | nil => exact absurd rfl a3 | cons c m => exact ⟨c, m, rfl⟩
            have a4 : (k : Int) = (n : Int) - 1 := by omega
            have a5 : ((k : Int) == (n : Int) - 1) = true := beq_iff_eq.2 a4
            have hop : opOk true k n (c :: m) cl tt kk = false := by simp [opOk]
            rw [hop] at hWo
            clear hop
            go_wp2_with (first
              | (go_at_call 51; (with_reducible refine (hN0.out _ (Jh.out.mem.to0 (by repeat first | with_reducible (first | exact Upd.refl _ _ | assumption | apply Upd.drew | apply Upd.alloc) | refine Upd0.tr ?_ (by with_reducible assumption) | refine Upd.setCell ?_ (fun h => absurd h (by first | exact Nat.lt_irrefl _ | (simp only []; omega))) _))).use ?_); rintro v w1 ⟨rfl, hm1, hu1⟩; have X1 := Lib.hid (XI.new (nm := (c :: m)) hm1 hu1 hwr); clear hm1)
              | (go_at_call 49; have _t := tk1; clear tk1 _t; (with_reducible refine (hN1.out _ X1.out.mem).use ?_); rintro v w2 ⟨rfl, hm2, hu2⟩; have X2 := Lib.hid (X1.out.call hm2 hu2); obtain ⟨y2a, y2b, y2c, y2d, y2e⟩ := four X2.out.blk; obtain ⟨z2a, z2b, z2c, z2d⟩ := X2.out.mem.cells; have hl2a := blk_lt X2.out.blk; have hl2b := X2.out.mem.lt; clear hm2)
              | (go_at_call 49; have _t := tk2; clear tk2 _t; (with_reducible refine (hN2.out _ (X2.out.set1 _).mem).use ?_); rintro v w3 ⟨rfl, hm3, hu3⟩; have X3 := Lib.hid ((X2.out.set1 _).call hm3 hu3); obtain ⟨y3a, y3b, y3c, y3d, y3e⟩ := four X3.out.blk; obtain ⟨z3a, z3b, z3c, z3d⟩ := X3.out.mem.cells; have hl3a := blk_lt X3.out.blk; have hl3b := X3.out.mem.lt; clear hm3)
              | (go_at_call 49; have _t := tk3; clear tk3 _t; (with_reducible refine (hN3.out _ X3.out.mem).use ?_); rintro v w4 ⟨rfl, hm4, hu4⟩; have X4 := Lib.hid (X3.out.call hm4 hu4); obtain ⟨y4a, y4b, y4c, y4d, y4e⟩ := four X4.out.blk; obtain ⟨z4a, z4b, z4c, z4d⟩ := X4.out.mem.cells; have hl4a := blk_lt X4.out.blk; have hl4b := X4.out.mem.lt; clear hm4)
              | (go_at_call 49; have _t := tk4; clear tk4 _t; (with_reducible refine (hN4.out _ X4.out.mem).use ?_); rintro v w5 ⟨rfl, hm5, hu5⟩; have X5 := Lib.hid (X4.out.call hm5 hu5); obtain ⟨y5a, y5b, y5c, y5d, y5e⟩ := four X5.out.blk; obtain ⟨z5a, z5b, z5c, z5d⟩ := X5.out.mem.cells; have hl5a := blk_lt X5.out.blk; have hl5b := X5.out.mem.lt; clear hm5)
              | (go_at_call 50; (with_reducible refine (hWo.out _ _ X5.out.mem rfl).use ?_); rintro v w6 ⟨rfl, hm6, hu6⟩; have X6 := Lib.hid (X5.out.call hm6 hu6); clear hm6)
              | (with_reducible refine wp_serial (by kernel_rfl) (by kernel_rfl) (by repeat with_reducible (first | apply NoBad.then | apply NoBad.inBlock | apply NoBad.jump | exact NoBad.rets)) ?_) | fail)
            go_returns
            rw [hres2.out]
            exact ⟨ao, cap, by rw [Jh.out.len]; rfl, own_rsr (ownsRow_upd Jh.out.own X6.out.upd (fun g hg e => by have := Jh.out.fre g hg; omega)) (by rw [Jh.out.len]), X6.out.mem, Jh.out.upd.tr X6.out.upd, fun g o e => Jh.out.fre g (by rw [e]; rfl)⟩
          · obtain ⟨rfl, a2, rfl, a4⟩ := a
            have a5 : (k : Int) = (n : Int) - 1 := by omega
            have a6 : ((k : Int) == (n : Int) - 1) = true := beq_iff_eq.2 a5
            have a7 : ¬ (512 : Int) ≤ (cl : Int) := by omega
            have hop : opOk true k n [] cl tt kk = false := by simp [opOk, a4]
            rw [hop] at hWo
            clear hop
            go_wp2_with (first
              | (go_at_call 51; (with_reducible refine (hN0.out _ (Jh.out.mem.to0 (by repeat first | with_reducible (first | exact Upd.refl _ _ | assumption | apply Upd.drew | apply Upd.alloc) | refine Upd0.tr ?_ (by with_reducible assumption) | refine Upd.setCell ?_ (fun h => absurd h (by first | exact Nat.lt_irrefl _ | (simp only []; omega))) _))).use ?_); rintro v w1 ⟨rfl, hm1, hu1⟩; have X1 := Lib.hid (XI.new (nm := []) hm1 hu1 hwr); clear hm1)
              | (go_at_call 49; have _t := tk1; clear tk1 _t; (with_reducible refine (hN1.out _ X1.out.mem).use ?_); rintro v w2 ⟨rfl, hm2, hu2⟩; have X2 := Lib.hid (X1.out.call hm2 hu2); obtain ⟨y2a, y2b, y2c, y2d, y2e⟩ := four X2.out.blk; obtain ⟨z2a, z2b, z2c, z2d⟩ := X2.out.mem.cells; have hl2a := blk_lt X2.out.blk; have hl2b := X2.out.mem.lt; clear hm2)
              | (go_at_call 49; have _t := tk2; clear tk2 _t; (with_reducible refine (hN2.out _ (X2.out.set1 _).mem).use ?_); rintro v w3 ⟨rfl, hm3, hu3⟩; have X3 := Lib.hid ((X2.out.set1 _).call hm3 hu3); obtain ⟨y3a, y3b, y3c, y3d, y3e⟩ := four X3.out.blk; obtain ⟨z3a, z3b, z3c, z3d⟩ := X3.out.mem.cells; have hl3a := blk_lt X3.out.blk; have hl3b := X3.out.mem.lt; clear hm3)
              | (go_at_call 49; have _t := tk3; clear tk3 _t; (with_reducible refine (hN3.out _ X3.out.mem).use ?_); rintro v w4 ⟨rfl, hm4, hu4⟩; have X4 := Lib.hid (X3.out.call hm4 hu4); obtain ⟨y4a, y4b, y4c, y4d, y4e⟩ := four X4.out.blk; obtain ⟨z4a, z4b, z4c, z4d⟩ := X4.out.mem.cells; have hl4a := blk_lt X4.out.blk; have hl4b := X4.out.mem.lt; clear hm4)
              | (go_at_call 49; have _t := tk4; clear tk4 _t; (with_reducible refine (hN4.out _ X4.out.mem).use ?_); rintro v w5 ⟨rfl, hm5, hu5⟩; have X5 := Lib.hid (X4.out.call hm5 hu5); obtain ⟨y5a, y5b, y5c, y5d, y5e⟩ := four X5.out.blk; obtain ⟨z5a, z5b, z5c, z5d⟩ := X5.out.mem.cells; have hl5a := blk_lt X5.out.blk; have hl5b := X5.out.mem.lt; clear hm5)
              | (go_at_call 50; (with_reducible refine (hWo.out _ _ X5.out.mem rfl).use ?_); rintro v w6 ⟨rfl, hm6, hu6⟩; have X6 := Lib.hid (X5.out.call hm6 hu6); clear hm6)
              | (with_reducible refine wp_serial (by kernel_rfl) (by kernel_rfl) (by repeat with_reducible (first | apply NoBad.then | apply NoBad.inBlock | apply NoBad.jump | exact NoBad.rets)) ?_) | fail)
            go_returns
            rw [hres2.out]
            exact ⟨ao, cap, by rw [Jh.out.len]; rfl, own_rsr (ownsRow_upd Jh.out.own X6.out.upd (fun g hg e => by have := Jh.out.fre g hg; omega)) (by rw [Jh.out.len]), X6.out.mem, Jh.out.upd.tr X6.out.upd, fun g o e => Jh.out.fre g (by rw [e]; rfl)⟩
          · obtain ⟨rfl, a2, rfl, a4, a5⟩ := a
            have a6 : (k : Int) = (n : Int) - 1 := by omega
            have a7 : ((k : Int) == (n : Int) - 1) = true := beq_iff_eq.2 a6
            have a8 : (512 : Int) ≤ (cl : Int) := by omega
            have a9 : ¬ (tt : Int) = 0 := by omega
            have hop : opOk true k n [] cl tt kk = false := by simp [opOk, a5]
            rw [hop] at hWo
            clear hop
            go_wp2_with (first
              | (go_at_call 51; (with_reducible refine (hN0.out _ (Jh.out.mem.to0 (by repeat first | with_reducible (first | exact Upd.refl _ _ | assumption | apply Upd.drew | apply Upd.alloc) | refine Upd0.tr ?_ (by with_reducible assumption) | refine Upd.setCell ?_ (fun h => absurd h (by first | exact Nat.lt_irrefl _ | (simp only []; omega))) _))).use ?_); rintro v w1 ⟨rfl, hm1, hu1⟩; have X1 := Lib.hid (XI.new (nm := []) hm1 hu1 hwr); clear hm1)
              | (go_at_call 49; have _t := tk1; clear tk1 _t; (with_reducible refine (hN1.out _ X1.out.mem).use ?_); rintro v w2 ⟨rfl, hm2, hu2⟩; have X2 := Lib.hid (X1.out.call hm2 hu2); obtain ⟨y2a, y2b, y2c, y2d, y2e⟩ := four X2.out.blk; obtain ⟨z2a, z2b, z2c, z2d⟩ := X2.out.mem.cells; have hl2a := blk_lt X2.out.blk; have hl2b := X2.out.mem.lt; clear hm2)
              | (go_at_call 49; have _t := tk2; clear tk2 _t; (with_reducible refine (hN2.out _ (X2.out.set1 _).mem).use ?_); rintro v w3 ⟨rfl, hm3, hu3⟩; have X3 := Lib.hid ((X2.out.set1 _).call hm3 hu3); obtain ⟨y3a, y3b, y3c, y3d, y3e⟩ := four X3.out.blk; obtain ⟨z3a, z3b, z3c, z3d⟩ := X3.out.mem.cells; have hl3a := blk_lt X3.out.blk; have hl3b := X3.out.mem.lt; clear hm3)
              | (go_at_call 49; have _t := tk3; clear tk3 _t; (with_reducible refine (hN3.out _ X3.out.mem).use ?_); rintro v w4 ⟨rfl, hm4, hu4⟩; have X4 := Lib.hid (X3.out.call hm4 hu4); obtain ⟨y4a, y4b, y4c, y4d, y4e⟩ := four X4.out.blk; obtain ⟨z4a, z4b, z4c, z4d⟩ := X4.out.mem.cells; have hl4a := blk_lt X4.out.blk; have hl4b := X4.out.mem.lt; clear hm4)
              | (go_at_call 49; have _t := tk4; clear tk4 _t; (with_reducible refine (hN4.out _ X4.out.mem).use ?_); rintro v w5 ⟨rfl, hm5, hu5⟩; have X5 := Lib.hid (X4.out.call hm5 hu5); obtain ⟨y5a, y5b, y5c, y5d, y5e⟩ := four X5.out.blk; obtain ⟨z5a, z5b, z5c, z5d⟩ := X5.out.mem.cells; have hl5a := blk_lt X5.out.blk; have hl5b := X5.out.mem.lt; clear hm5)
              | (go_at_call 50; (with_reducible refine (hWo.out _ _ X5.out.mem rfl).use ?_); rintro v w6 ⟨rfl, hm6, hu6⟩; have X6 := Lib.hid (X5.out.call hm6 hu6); clear hm6)
              | (with_reducible refine wp_serial (by kernel_rfl) (by kernel_rfl) (by repeat with_reducible (first | apply NoBad.then | apply NoBad.inBlock | apply NoBad.jump | exact NoBad.rets)) ?_) | fail)
            go_returns
            rw [hres2.out]
            exact ⟨ao, cap, by rw [Jh.out.len]; rfl, own_rsr (ownsRow_upd Jh.out.own X6.out.upd (fun g hg e => by have := Jh.out.fre g hg; omega)) (by rw [Jh.out.len]), X6.out.mem, Jh.out.upd.tr X6.out.upd, fun g o e => Jh.out.fre g (by rw [e]; rfl)⟩
          · obtain ⟨rfl, a2, rfl, a4, rfl⟩ := a
            have a6 : (k : Int) = (n : Int) - 1 := by omega
            have a7 : ((k : Int) == (n : Int) - 1) = true := beq_iff_eq.2 a6
            have a8 : (512 : Int) ≤ (cl : Int) := by omega
            have hop : opOk true k n [] cl 0 kk = decide (kk = 0) := by simp [opOk, a2, a4]
            rw [hop] at hWo
            clear hop
            have hk0 := eqI kk 0 0 rfl
            go_wp2_with (first
              | (go_at_call 51; (with_reducible refine (hN0.out _ (Jh.out.mem.to0 (by repeat first | with_reducible (first | exact Upd.refl _ _ | assumption | apply Upd.drew | apply Upd.alloc) | refine Upd0.tr ?_ (by with_reducible assumption) | refine Upd.setCell ?_ (fun h => absurd h (by first | exact Nat.lt_irrefl _ | (simp only []; omega))) _))).use ?_); rintro v w1 ⟨rfl, hm1, hu1⟩; have X1 := Lib.hid (XI.new (nm := []) hm1 hu1 hwr); clear hm1)
              | (go_at_call 49; have _t := tk1; clear tk1 _t; (with_reducible refine (hN1.out _ X1.out.mem).use ?_); rintro v w2 ⟨rfl, hm2, hu2⟩; have X2 := Lib.hid (X1.out.call hm2 hu2); obtain ⟨y2a, y2b, y2c, y2d, y2e⟩ := four X2.out.blk; obtain ⟨z2a, z2b, z2c, z2d⟩ := X2.out.mem.cells; have hl2a := blk_lt X2.out.blk; have hl2b := X2.out.mem.lt; clear hm2)
              | (go_at_call 49; have _t := tk2; clear tk2 _t; (with_reducible refine (hN2.out _ (X2.out.set1 _).mem).use ?_); rintro v w3 ⟨rfl, hm3, hu3⟩; have X3 := Lib.hid ((X2.out.set1 _).call hm3 hu3); obtain ⟨y3a, y3b, y3c, y3d, y3e⟩ := four X3.out.blk; obtain ⟨z3a, z3b, z3c, z3d⟩ := X3.out.mem.cells; have hl3a := blk_lt X3.out.blk; have hl3b := X3.out.mem.lt; clear hm3)
              | (go_at_call 49; have _t := tk3; clear tk3 _t; (with_reducible refine (hN3.out _ X3.out.mem).use ?_); rintro v w4 ⟨rfl, hm4, hu4⟩; have X4 := Lib.hid (X3.out.call hm4 hu4); obtain ⟨y4a, y4b, y4c, y4d, y4e⟩ := four X4.out.blk; obtain ⟨z4a, z4b, z4c, z4d⟩ := X4.out.mem.cells; have hl4a := blk_lt X4.out.blk; have hl4b := X4.out.mem.lt; clear hm4)
              | (go_at_call 49; have _t := tk4; clear tk4 _t; (with_reducible refine (hN4.out _ X4.out.mem).use ?_); rintro v w5 ⟨rfl, hm5, hu5⟩; have X5 := Lib.hid (X4.out.call hm5 hu5); obtain ⟨y5a, y5b, y5c, y5d, y5e⟩ := four X5.out.blk; obtain ⟨z5a, z5b, z5c, z5d⟩ := X5.out.mem.cells; have hl5a := blk_lt X5.out.blk; have hl5b := X5.out.mem.lt; clear hm5)
              | (go_at_call 50; (with_reducible refine (hWo.out _ _ X5.out.mem rfl).use ?_); rintro v w6 ⟨rfl, hm6, hu6⟩; have X6 := Lib.hid (X5.out.call hm6 hu6); clear hm6)
              | (with_reducible refine wp_serial (by kernel_rfl) (by kernel_rfl) (by repeat with_reducible (first | apply NoBad.then | apply NoBad.inBlock | apply NoBad.jump | exact NoBad.rets)) ?_) | fail)
            go_returns
            rw [hres2.out]
            exact ⟨ao, cap, by rw [Jh.out.len]; rfl, own_rsr (ownsRow_upd Jh.out.own X6.out.upd (fun g hg e => by have := Jh.out.fre g hg; omega)) (by rw [Jh.out.len]), X6.out.mem, Jh.out.upd.tr X6.out.upd, fun g o e => Jh.out.fre g (by rw [e]; rfl)⟩
        · obtain ⟨r4, hr4⟩ : ∃ x, reW s cl rC = x := ⟨_, rfl⟩
          obtain ⟨tt, htt⟩ : ∃ x, reT s r4 = x := ⟨_, rfl⟩
          obtain ⟨r5, hr5⟩ : ∃ x, reA s r4 = x := ⟨_, rfl⟩
          obtain ⟨kk, hkk⟩ : ∃ x, reK s r4 = x := ⟨_, rfl⟩
          obtain ⟨r6, hr6⟩ : ∃ x, reB s r4 = x := ⟨_, rfl⟩
          obtain ⟨d, hd⟩ : ∃ x, daS s r6 ty kk = x := ⟨_, rfl⟩
          obtain ⟨r7, hr7⟩ : ∃ x, daR s r6 ty kk = x := ⟨_, rfl⟩
          have hp4 : r4.p ≤ 70000 := by rw [← hr4, reW, Rk.want_p]; exact hpC
          have hp5 : r5.p ≤ 70000 := by rw [← hr5]; exact takR_p s r4 4 hp4 hs
          have hp6 : r6.p ≤ 70000 := by rw [← hr6, reB, hr5]; exact takR_p s r5 2 hp5 hs
          have hkk2 : kk < 65536 := by rw [← hkk]; exact nuN_2' _ _
          have hdf := da_fin hs hp6 (ty : Int) (n := kk) (by omega)
          rw [hd, hr7] at hdf
          obtain ⟨hld, hp7⟩ := hdf
          have hWc := Lib.hid (fun (is : Bool) (w' : World) (h : RkM w' t s rC) (hb : is = decide (cl = 1)) => want_is t s rC is (decide (cl = 1)) 2 (by decide) w' h hb)
          have e0 : rC.want (decide (cl = 1)) 2 = r4 := hr4
          rw [e0] at hWc
          have hN3 := Lib.hid (fun (w' : World) (h : RkM w' t s r4) => num4_w t s r4 w' h hs hp4)
          have e1 : nuN s r4 4 = tt := htt
          have e2 : nuR s r4 4 = r5 := hr5
          rw [e1, e2] at hN3
          have hN4 := Lib.hid (fun (w' : World) (h : RkM w' t s r5) => num2_w t s r5 w' h hs hp5)
          have e3 : nuN s r5 2 = kk := by rw [← hkk, reK, hr5]
          have e4 : nuR s r5 2 = r6 := by rw [← hr6, reB, hr5]
          rw [e3, e4] at hN4
          have hDa := Lib.hid (fun (w' : World) (h : RkM w' t s r6) => data_w3 t s r6 (ty : Int) kk w' h hs hp6 (by omega))
          rw [hd, hr7] at hDa
          have hC := Lib.hid (fun (w' : World) => recCheck_w nm ty tt d (by omega) (by omega) w')
          have hx : reC nm ty s r4 = ⟨nm, ty, tt, d⟩ := by rw [reC, htt, hr6, hkk, hd]
          have hok : (reC nm ty s r4).ok = decide (recC nm ty tt d = 0) := by rw [hx]; rfl
          have hWe := Lib.hid (fun (is : Bool) (w' : World) (h : RkM w' t s r7) (hb : is = (decide (k < 200) && decide (recC nm ty tt d = 0))) => want_is t s r7 is (decide (k < 200) && decide (recC nm ty tt d = 0)) 2 (by decide) w' h hb)
          have hres2 := Lib.hid (show R = rcF s last n (n - (k + 1)) (k + 1) (r7.want (decide (k < 200) && decide (recC nm ty tt d = 0)) 2) (l ++ [⟨nm, ty, tt, d⟩]) from hres.out.trans (by rw [hf2.out, rcF, if_pos rfl, hty, hrC, if_neg ho, hnm, hcl, hr4, hx, reE, hok, reD, hr6, hkk, hr7]))
          clear hnm hrA hty hrB hcl hrC e0 e1 e2 e3 e4 hr4 htt hr5 hkk hr6 hd hr7 hx hok
          have hpE : (r7.want (decide (k < 200) && decide (recC nm ty tt d = 0)) 2).p ≤ 70000 := by rw [Rk.want_p]; exact hp7
          obtain ⟨r8, hr8⟩ : ∃ x, r7.want (decide (k < 200) && decide (recC nm ty tt d = 0)) 2 = x := ⟨_, rfl⟩
          rw [hr8] at hWe hres2 hpE
          clear hr8
          obtain ⟨c, hc⟩ : ∃ x, recC nm ty tt d = x := ⟨_, rfl⟩
          rw [hc] at hWe hC
          clear hc
          have hc0 := eqZ c
          have hcl1 := eqI cl 1 1 rfl
          obtain ⟨pC, eC⟩ := rC
          have tk1 : True := trivial
          have tk2 : True := trivial
          have tk3 : True := trivial
          have tk4 : True := trivial
          have tk5 : True := trivial
          have ways : (¬ ty = 41 ∧ k < 200) ∨ (¬ ty = 41 ∧ ¬ k < 200) ∨ ((ty = 41 ∧ ¬ eC = 0) ∧ k < 200) ∨ ((ty = 41 ∧ ¬ eC = 0) ∧ ¬ k < 200) := by
            by_cases a1 : ty = 41
            · by_cases a2 : k < 200
              · exact .inr (.inr (.inl ⟨⟨a1, fun e => ho ⟨a1, e⟩⟩, a2⟩))
              · exact .inr (.inr (.inr ⟨⟨a1, fun e => ho ⟨a1, e⟩⟩, a2⟩))
            · by_cases a2 : k < 200
              · exact .inl ⟨a1, a2⟩
              · exact .inr (.inl ⟨a1, a2⟩)
          clear ho
          rcases ways with a | a | a | a
          · obtain ⟨a1, a2⟩ := a
            have a3 : ¬ (ty : Int) = 41 := by omega
            have a3b : ((ty : Int) == 41) = false := beq_eq_false_iff_ne.2 a3
            have a4 : (k : Int) < 200 := by omega
            rw [decide_eq_true a2, Bool.true_and] at hWe
            go_wp2_with (first
              | (go_at_call 51; (with_reducible refine (hN0.out _ (Jh.out.mem.to0 (by repeat first | with_reducible (first | exact Upd.refl _ _ | assumption | apply Upd.drew | apply Upd.alloc) | refine Upd0.tr ?_ (by with_reducible assumption) | refine Upd.setCell ?_ (fun h => absurd h (by first | exact Nat.lt_irrefl _ | (simp only []; omega))) _))).use ?_); rintro v w1 ⟨rfl, hm1, hu1⟩; have X1 := Lib.hid (XI.new (nm := nm) hm1 hu1 hwr); clear hm1)
              | (go_at_call 49; have _t := tk1; clear tk1 _t; (with_reducible refine (hN1.out _ X1.out.mem).use ?_); rintro v w2 ⟨rfl, hm2, hu2⟩; have X2 := Lib.hid (X1.out.call hm2 hu2); obtain ⟨y2a, y2b, y2c, y2d, y2e⟩ := four X2.out.blk; obtain ⟨z2a, z2b, z2c, z2d⟩ := X2.out.mem.cells; have hl2a := blk_lt X2.out.blk; have hl2b := X2.out.mem.lt; clear hm2)
              | (go_at_call 49; have _t := tk2; clear tk2 _t; (with_reducible refine (hN2.out _ (X2.out.set1 _).mem).use ?_); rintro v w3 ⟨rfl, hm3, hu3⟩; have X3 := Lib.hid ((X2.out.set1 _).call hm3 hu3); obtain ⟨y3a, y3b, y3c, y3d, y3e⟩ := four X3.out.blk; obtain ⟨z3a, z3b, z3c, z3d⟩ := X3.out.mem.cells; have hl3a := blk_lt X3.out.blk; have hl3b := X3.out.mem.lt; clear hm3)
              | (go_at_call 50; have _t := tk3; clear tk3 _t; (with_reducible refine (hWc.out _ _ X3.out.mem rfl).use ?_); rintro v w4 ⟨rfl, hm4, hu4⟩; have X4 := Lib.hid (X3.out.call hm4 hu4); obtain ⟨y4a, y4b, y4c, y4d, y4e⟩ := four X4.out.blk; have hl4a := blk_lt X4.out.blk; have hl4b := X4.out.mem.lt; clear hm4)
              | (go_at_call 49; have _t := tk4; clear tk4 _t; (with_reducible refine (hN3.out _ X4.out.mem).use ?_); rintro v w5 ⟨rfl, hm5, hu5⟩; have X5 := Lib.hid (X4.out.call hm5 hu5); obtain ⟨y5a, y5b, y5c, y5d, y5e⟩ := four X5.out.blk; obtain ⟨z5a, z5b, z5c, z5d⟩ := X5.out.mem.cells; have hl5a := blk_lt X5.out.blk; have hl5b := X5.out.mem.lt; clear hm5)
              | (go_at_call 49; have _t := tk5; clear tk5 _t; (with_reducible refine (hN4.out _ ((X5.out.set2 tt).mem.to0 (by repeat first | with_reducible (first | exact Upd.refl _ _ | assumption | apply Upd.drew | apply Upd.alloc) | refine Upd0.tr ?_ (by with_reducible assumption) | refine Upd.setCell ?_ (fun h => absurd h (by first | exact Nat.lt_irrefl _ | (simp only []; omega))) _))).use ?_); rintro v w6 ⟨rfl, hm6, hu6⟩; have X6 := Lib.hid (((X5.out.set2 tt).up0 (by repeat first | with_reducible (first | exact Upd.refl _ _ | assumption | apply Upd.drew | apply Upd.alloc) | refine Upd0.tr ?_ (by with_reducible assumption) | refine Upd.setCell ?_ (fun h => absurd h (by first | exact Nat.lt_irrefl _ | (simp only []; omega))) _)).call hm6 hu6); obtain ⟨y6a, y6b, y6c, y6d, y6e⟩ := four X6.out.blk; obtain ⟨z6a, z6b, z6c, z6d⟩ := X6.out.mem.cells; have hl6a := blk_lt X6.out.blk; have hl6b := X6.out.mem.lt; clear hm6)
              | (go_at_call 70; (with_reducible refine (hDa.out _ (X6.out.mem.to0 (by repeat first | with_reducible (first | exact Upd.refl _ _ | assumption | apply Upd.drew | apply Upd.alloc) | refine Upd0.tr ?_ (by with_reducible assumption) | refine Upd.setCell ?_ (fun h => absurd h (by first | exact Nat.lt_irrefl _ | (simp only []; omega))) _))).use ?_); rintro v w7 ⟨rfl, hm7, hu7⟩; have X7 := Lib.hid ((X6.out.up0 (by repeat first | with_reducible (first | exact Upd.refl _ _ | assumption | apply Upd.drew | apply Upd.alloc) | refine Upd0.tr ?_ (by with_reducible assumption) | refine Upd.setCell ?_ (fun h => absurd h (by first | exact Nat.lt_irrefl _ | (simp only []; omega))) _)).call hm7 hu7); obtain ⟨y7a, y7b, y7c, y7d, y7e⟩ := four X7.out.blk; obtain ⟨z7a, z7b, z7c, z7d⟩ := X7.out.mem.cells; have hl7a := blk_lt X7.out.blk; have hl7b := X7.out.mem.lt; clear hm7)
              | (go_at_call 66; (with_reducible refine (hC.out _).use ?_); rintro v w8 ⟨rfl, hu8⟩; have X8 := Lib.hid (((X7.out.set3 d).up0 (by repeat first | with_reducible (first | exact Upd.refl _ _ | assumption | apply Upd.drew | apply Upd.alloc) | refine Upd0.tr ?_ (by with_reducible assumption) | refine Upd.setCell ?_ (fun h => absurd h (by first | exact Nat.lt_irrefl _ | (simp only []; omega))) _)).up0 hu8); obtain ⟨y8a, y8b, y8c, y8d, y8e⟩ := four X8.out.blk; have hl8a := blk_lt X8.out.blk; have hl8b := X8.out.mem.lt)
              | (go_at_call 50; (with_reducible refine (hWe.out _ _ X8.out.mem rfl).use ?_); rintro v w9 ⟨rfl, hm9, hu9⟩; have X9 := Lib.hid (X8.out.call hm9 hu9); obtain ⟨y9a, y9b, y9c, y9d, y9e⟩ := four X9.out.blk; have hl9a := blk_lt X9.out.blk; have hl9b := X9.out.mem.lt; have hrow9 := Lib.hid (ownsRow_upd Jh.out.own X9.out.upd (fun g hg e => by have := Jh.out.fre g hg; omega)); clear hm9)
              | (at_builtin; refine wpList_app (w := w9) (by repeat first | exact Ext.refl _ | assumption | apply Ext.drew | apply Ext.alloc) rfl (.tmp 105) (.tmp 107) 23 rfl 46 i0 _ 4 48 Try.underlying23 hi hz0 hz1 hz2 rfl (by decide) _ _ _ hrow9.out rfl _ _ _ [.string ⟨nm.toArray⟩, .int .i64 ty, .int .i64 tt, .string ⟨d.toArray⟩] rfl rfl (alloc_last _ _ _ (by simp)) rfl (by omega) (by omega) ?_; intro ao2 cap2 wA hrA huA hfA; have hrAh := Lib.hid hrA; have huAh := Lib.hid huA; have hfAh := Lib.hid hfA; clear hrA huA hfA)
              | (with_reducible refine wp_serial2 2 4 [0,3,4,1,2,5,6,7] [_, _, _, _, _, _, _, _] (by kernel_rfl) (by decide +kernel) rfl (by repeat with_reducible (first | apply NoBad.then | apply NoBad.inBlock | apply NoBad.jump | exact NoBad.rets)) ?_ ?_)
              | (with_reducible refine wp_serial (by kernel_rfl) (by kernel_rfl) (by repeat with_reducible (first | apply NoBad.then | apply NoBad.inBlock | apply NoBad.jump | exact NoBad.rets)) ?_) | fail)
            all_goals go_roundw
            all_goals first
              | exact ⟨k + 1, r8, l ++ [⟨nm, ty, tt, d⟩], ao2, cap2, by first | rfl | go_num, by go_num, rcj_next (x := ⟨nm, ty, tt, d⟩) Jh.out hlt (X9.out.upd.alloc _) (X9.out.mem.to0 (by repeat first | with_reducible (first | exact Upd.refl _ _ | assumption | apply Upd.drew | apply Upd.alloc) | refine Upd0.tr ?_ (by with_reducible assumption) | refine Upd.setCell ?_ (fun h => absurd h (by first | exact Nat.lt_irrefl _ | (simp only []; omega))) _)) hpE hlt2 hrAh.out huAh.out hfAh.out hres2.out⟩
              | (simp [intOf]; omega)
          · obtain ⟨a1, a2⟩ := a
            have a3 : ¬ (ty : Int) = 41 := by omega
            have a3b : ((ty : Int) == 41) = false := beq_eq_false_iff_ne.2 a3
            have a4 : ¬ (k : Int) < 200 := by omega
            rw [decide_eq_false a2, Bool.false_and] at hWe
            go_wp2_with (first
              | (go_at_call 51; (with_reducible refine (hN0.out _ (Jh.out.mem.to0 (by repeat first | with_reducible (first | exact Upd.refl _ _ | assumption | apply Upd.drew | apply Upd.alloc) | refine Upd0.tr ?_ (by with_reducible assumption) | refine Upd.setCell ?_ (fun h => absurd h (by first | exact Nat.lt_irrefl _ | (simp only []; omega))) _))).use ?_); rintro v w1 ⟨rfl, hm1, hu1⟩; have X1 := Lib.hid (XI.new (nm := nm) hm1 hu1 hwr); clear hm1)
              | (go_at_call 49; have _t := tk1; clear tk1 _t; (with_reducible refine (hN1.out _ X1.out.mem).use ?_); rintro v w2 ⟨rfl, hm2, hu2⟩; have X2 := Lib.hid (X1.out.call hm2 hu2); obtain ⟨y2a, y2b, y2c, y2d, y2e⟩ := four X2.out.blk; obtain ⟨z2a, z2b, z2c, z2d⟩ := X2.out.mem.cells; have hl2a := blk_lt X2.out.blk; have hl2b := X2.out.mem.lt; clear hm2)
              | (go_at_call 49; have _t := tk2; clear tk2 _t; (with_reducible refine (hN2.out _ (X2.out.set1 _).mem).use ?_); rintro v w3 ⟨rfl, hm3, hu3⟩; have X3 := Lib.hid ((X2.out.set1 _).call hm3 hu3); obtain ⟨y3a, y3b, y3c, y3d, y3e⟩ := four X3.out.blk; obtain ⟨z3a, z3b, z3c, z3d⟩ := X3.out.mem.cells; have hl3a := blk_lt X3.out.blk; have hl3b := X3.out.mem.lt; clear hm3)
              | (go_at_call 50; have _t := tk3; clear tk3 _t; (with_reducible refine (hWc.out _ _ X3.out.mem rfl).use ?_); rintro v w4 ⟨rfl, hm4, hu4⟩; have X4 := Lib.hid (X3.out.call hm4 hu4); obtain ⟨y4a, y4b, y4c, y4d, y4e⟩ := four X4.out.blk; have hl4a := blk_lt X4.out.blk; have hl4b := X4.out.mem.lt; clear hm4)
              | (go_at_call 49; have _t := tk4; clear tk4 _t; (with_reducible refine (hN3.out _ X4.out.mem).use ?_); rintro v w5 ⟨rfl, hm5, hu5⟩; have X5 := Lib.hid (X4.out.call hm5 hu5); obtain ⟨y5a, y5b, y5c, y5d, y5e⟩ := four X5.out.blk; obtain ⟨z5a, z5b, z5c, z5d⟩ := X5.out.mem.cells; have hl5a := blk_lt X5.out.blk; have hl5b := X5.out.mem.lt; clear hm5)
              | (go_at_call 49; have _t := tk5; clear tk5 _t; (with_reducible refine (hN4.out _ ((X5.out.set2 tt).mem.to0 (by repeat first | with_reducible (first | exact Upd.refl _ _ | assumption | apply Upd.drew | apply Upd.alloc) | refine Upd0.tr ?_ (by with_reducible assumption) | refine Upd.setCell ?_ (fun h => absurd h (by first | exact Nat.lt_irrefl _ | (simp only []; omega))) _))).use ?_); rintro v w6 ⟨rfl, hm6, hu6⟩; have X6 := Lib.hid (((X5.out.set2 tt).up0 (by repeat first | with_reducible (first | exact Upd.refl _ _ | assumption | apply Upd.drew | apply Upd.alloc) | refine Upd0.tr ?_ (by with_reducible assumption) | refine Upd.setCell ?_ (fun h => absurd h (by first | exact Nat.lt_irrefl _ | (simp only []; omega))) _)).call hm6 hu6); obtain ⟨y6a, y6b, y6c, y6d, y6e⟩ := four X6.out.blk; obtain ⟨z6a, z6b, z6c, z6d⟩ := X6.out.mem.cells; have hl6a := blk_lt X6.out.blk; have hl6b := X6.out.mem.lt; clear hm6)
              | (go_at_call 70; (with_reducible refine (hDa.out _ (X6.out.mem.to0 (by repeat first | with_reducible (first | exact Upd.refl _ _ | assumption | apply Upd.drew | apply Upd.alloc) | refine Upd0.tr ?_ (by with_reducible assumption) | refine Upd.setCell ?_ (fun h => absurd h (by first | exact Nat.lt_irrefl _ | (simp only []; omega))) _))).use ?_); rintro v w7 ⟨rfl, hm7, hu7⟩; have X7 := Lib.hid ((X6.out.up0 (by repeat first | with_reducible (first | exact Upd.refl _ _ | assumption | apply Upd.drew | apply Upd.alloc) | refine Upd0.tr ?_ (by with_reducible assumption) | refine Upd.setCell ?_ (fun h => absurd h (by first | exact Nat.lt_irrefl _ | (simp only []; omega))) _)).call hm7 hu7); obtain ⟨y7a, y7b, y7c, y7d, y7e⟩ := four X7.out.blk; obtain ⟨z7a, z7b, z7c, z7d⟩ := X7.out.mem.cells; have hl7a := blk_lt X7.out.blk; have hl7b := X7.out.mem.lt; clear hm7)
              | (go_at_call 50; (with_reducible refine (hWe.out _ _ ((X7.out.set3 d).up0 (by repeat first | with_reducible (first | exact Upd.refl _ _ | assumption | apply Upd.drew | apply Upd.alloc) | refine Upd0.tr ?_ (by with_reducible assumption) | refine Upd.setCell ?_ (fun h => absurd h (by first | exact Nat.lt_irrefl _ | (simp only []; omega))) _)).mem rfl).use ?_); rintro v w9 ⟨rfl, hm9, hu9⟩; have X9 := Lib.hid (((X7.out.set3 d).up0 (by repeat first | with_reducible (first | exact Upd.refl _ _ | assumption | apply Upd.drew | apply Upd.alloc) | refine Upd0.tr ?_ (by with_reducible assumption) | refine Upd.setCell ?_ (fun h => absurd h (by first | exact Nat.lt_irrefl _ | (simp only []; omega))) _)).call hm9 hu9); obtain ⟨y9a, y9b, y9c, y9d, y9e⟩ := four X9.out.blk; have hl9a := blk_lt X9.out.blk; have hl9b := X9.out.mem.lt; have hrow9 := Lib.hid (ownsRow_upd Jh.out.own X9.out.upd (fun g hg e => by have := Jh.out.fre g hg; omega)); clear hm9)
              | (at_builtin; refine wpList_app (w := w9) (by repeat first | exact Ext.refl _ | assumption | apply Ext.drew | apply Ext.alloc) rfl (.tmp 105) (.tmp 107) 23 rfl 46 i0 _ 4 48 Try.underlying23 hi hz0 hz1 hz2 rfl (by decide) _ _ _ hrow9.out rfl _ _ _ [.string ⟨nm.toArray⟩, .int .i64 ty, .int .i64 tt, .string ⟨d.toArray⟩] rfl rfl (alloc_last _ _ _ (by simp)) rfl (by omega) (by omega) ?_; intro ao2 cap2 wA hrA huA hfA; have hrAh := Lib.hid hrA; have huAh := Lib.hid huA; have hfAh := Lib.hid hfA; clear hrA huA hfA)
              | (with_reducible refine wp_serial2 2 4 [0,3,4,1,2,5,6,7] [_, _, _, _, _, _, _, _] (by kernel_rfl) (by decide +kernel) rfl (by repeat with_reducible (first | apply NoBad.then | apply NoBad.inBlock | apply NoBad.jump | exact NoBad.rets)) ?_ ?_)
              | (with_reducible refine wp_serial (by kernel_rfl) (by kernel_rfl) (by repeat with_reducible (first | apply NoBad.then | apply NoBad.inBlock | apply NoBad.jump | exact NoBad.rets)) ?_) | fail)
            all_goals go_roundw
            all_goals first
              | exact ⟨k + 1, r8, l ++ [⟨nm, ty, tt, d⟩], ao2, cap2, by first | rfl | go_num, by go_num, rcj_next (x := ⟨nm, ty, tt, d⟩) Jh.out hlt (X9.out.upd.alloc _) (X9.out.mem.to0 (by repeat first | with_reducible (first | exact Upd.refl _ _ | assumption | apply Upd.drew | apply Upd.alloc) | refine Upd0.tr ?_ (by with_reducible assumption) | refine Upd.setCell ?_ (fun h => absurd h (by first | exact Nat.lt_irrefl _ | (simp only []; omega))) _)) hpE hlt2 hrAh.out huAh.out hfAh.out hres2.out⟩
              | (simp [intOf]; omega)
          · obtain ⟨⟨a0, a1⟩, a2⟩ := a
            have a3b : ((ty : Int) == 41) = true := by rw [a0]; rfl
            clear a0
            have a4 : (k : Int) < 200 := by omega
            rw [decide_eq_true a2, Bool.true_and] at hWe
            go_wp2_with (first
              | (go_at_call 51; (with_reducible refine (hN0.out _ (Jh.out.mem.to0 (by repeat first | with_reducible (first | exact Upd.refl _ _ | assumption | apply Upd.drew | apply Upd.alloc) | refine Upd0.tr ?_ (by with_reducible assumption) | refine Upd.setCell ?_ (fun h => absurd h (by first | exact Nat.lt_irrefl _ | (simp only []; omega))) _))).use ?_); rintro v w1 ⟨rfl, hm1, hu1⟩; have X1 := Lib.hid (XI.new (nm := nm) hm1 hu1 hwr); clear hm1)
              | (go_at_call 49; have _t := tk1; clear tk1 _t; (with_reducible refine (hN1.out _ X1.out.mem).use ?_); rintro v w2 ⟨rfl, hm2, hu2⟩; have X2 := Lib.hid (X1.out.call hm2 hu2); obtain ⟨y2a, y2b, y2c, y2d, y2e⟩ := four X2.out.blk; obtain ⟨z2a, z2b, z2c, z2d⟩ := X2.out.mem.cells; have hl2a := blk_lt X2.out.blk; have hl2b := X2.out.mem.lt; clear hm2)
              | (go_at_call 49; have _t := tk2; clear tk2 _t; (with_reducible refine (hN2.out _ (X2.out.set1 _).mem).use ?_); rintro v w3 ⟨rfl, hm3, hu3⟩; have X3 := Lib.hid ((X2.out.set1 _).call hm3 hu3); obtain ⟨y3a, y3b, y3c, y3d, y3e⟩ := four X3.out.blk; obtain ⟨z3a, z3b, z3c, z3d⟩ := X3.out.mem.cells; have hl3a := blk_lt X3.out.blk; have hl3b := X3.out.mem.lt; clear hm3)
              | (go_at_call 50; have _t := tk3; clear tk3 _t; (with_reducible refine (hWc.out _ _ X3.out.mem rfl).use ?_); rintro v w4 ⟨rfl, hm4, hu4⟩; have X4 := Lib.hid (X3.out.call hm4 hu4); obtain ⟨y4a, y4b, y4c, y4d, y4e⟩ := four X4.out.blk; have hl4a := blk_lt X4.out.blk; have hl4b := X4.out.mem.lt; clear hm4)
              | (go_at_call 49; have _t := tk4; clear tk4 _t; (with_reducible refine (hN3.out _ X4.out.mem).use ?_); rintro v w5 ⟨rfl, hm5, hu5⟩; have X5 := Lib.hid (X4.out.call hm5 hu5); obtain ⟨y5a, y5b, y5c, y5d, y5e⟩ := four X5.out.blk; obtain ⟨z5a, z5b, z5c, z5d⟩ := X5.out.mem.cells; have hl5a := blk_lt X5.out.blk; have hl5b := X5.out.mem.lt; clear hm5)
              | (go_at_call 49; have _t := tk5; clear tk5 _t; (with_reducible refine (hN4.out _ ((X5.out.set2 tt).mem.to0 (by repeat first | with_reducible (first | exact Upd.refl _ _ | assumption | apply Upd.drew | apply Upd.alloc) | refine Upd0.tr ?_ (by with_reducible assumption) | refine Upd.setCell ?_ (fun h => absurd h (by first | exact Nat.lt_irrefl _ | (simp only []; omega))) _))).use ?_); rintro v w6 ⟨rfl, hm6, hu6⟩; have X6 := Lib.hid (((X5.out.set2 tt).up0 (by repeat first | with_reducible (first | exact Upd.refl _ _ | assumption | apply Upd.drew | apply Upd.alloc) | refine Upd0.tr ?_ (by with_reducible assumption) | refine Upd.setCell ?_ (fun h => absurd h (by first | exact Nat.lt_irrefl _ | (simp only []; omega))) _)).call hm6 hu6); obtain ⟨y6a, y6b, y6c, y6d, y6e⟩ := four X6.out.blk; obtain ⟨z6a, z6b, z6c, z6d⟩ := X6.out.mem.cells; have hl6a := blk_lt X6.out.blk; have hl6b := X6.out.mem.lt; clear hm6)
              | (go_at_call 70; (with_reducible refine (hDa.out _ (X6.out.mem.to0 (by repeat first | with_reducible (first | exact Upd.refl _ _ | assumption | apply Upd.drew | apply Upd.alloc) | refine Upd0.tr ?_ (by with_reducible assumption) | refine Upd.setCell ?_ (fun h => absurd h (by first | exact Nat.lt_irrefl _ | (simp only []; omega))) _))).use ?_); rintro v w7 ⟨rfl, hm7, hu7⟩; have X7 := Lib.hid ((X6.out.up0 (by repeat first | with_reducible (first | exact Upd.refl _ _ | assumption | apply Upd.drew | apply Upd.alloc) | refine Upd0.tr ?_ (by with_reducible assumption) | refine Upd.setCell ?_ (fun h => absurd h (by first | exact Nat.lt_irrefl _ | (simp only []; omega))) _)).call hm7 hu7); obtain ⟨y7a, y7b, y7c, y7d, y7e⟩ := four X7.out.blk; obtain ⟨z7a, z7b, z7c, z7d⟩ := X7.out.mem.cells; have hl7a := blk_lt X7.out.blk; have hl7b := X7.out.mem.lt; clear hm7)
              | (go_at_call 66; (with_reducible refine (hC.out _).use ?_); rintro v w8 ⟨rfl, hu8⟩; have X8 := Lib.hid (((X7.out.set3 d).up0 (by repeat first | with_reducible (first | exact Upd.refl _ _ | assumption | apply Upd.drew | apply Upd.alloc) | refine Upd0.tr ?_ (by with_reducible assumption) | refine Upd.setCell ?_ (fun h => absurd h (by first | exact Nat.lt_irrefl _ | (simp only []; omega))) _)).up0 hu8); obtain ⟨y8a, y8b, y8c, y8d, y8e⟩ := four X8.out.blk; have hl8a := blk_lt X8.out.blk; have hl8b := X8.out.mem.lt)
              | (go_at_call 50; (with_reducible refine (hWe.out _ _ X8.out.mem rfl).use ?_); rintro v w9 ⟨rfl, hm9, hu9⟩; have X9 := Lib.hid (X8.out.call hm9 hu9); obtain ⟨y9a, y9b, y9c, y9d, y9e⟩ := four X9.out.blk; have hl9a := blk_lt X9.out.blk; have hl9b := X9.out.mem.lt; have hrow9 := Lib.hid (ownsRow_upd Jh.out.own X9.out.upd (fun g hg e => by have := Jh.out.fre g hg; omega)); clear hm9)
              | (at_builtin; refine wpList_app (w := w9) (by repeat first | exact Ext.refl _ | assumption | apply Ext.drew | apply Ext.alloc) rfl (.tmp 105) (.tmp 107) 23 rfl 46 i0 _ 4 48 Try.underlying23 hi hz0 hz1 hz2 rfl (by decide) _ _ _ hrow9.out rfl _ _ _ [.string ⟨nm.toArray⟩, .int .i64 ty, .int .i64 tt, .string ⟨d.toArray⟩] rfl rfl (alloc_last _ _ _ (by simp)) rfl (by omega) (by omega) ?_; intro ao2 cap2 wA hrA huA hfA; have hrAh := Lib.hid hrA; have huAh := Lib.hid huA; have hfAh := Lib.hid hfA; clear hrA huA hfA)
              | (with_reducible refine wp_serial2 2 4 [0,3,4,1,2,5,6,7] [_, _, _, _, _, _, _, _] (by kernel_rfl) (by decide +kernel) rfl (by repeat with_reducible (first | apply NoBad.then | apply NoBad.inBlock | apply NoBad.jump | exact NoBad.rets)) ?_ ?_)
              | (with_reducible refine wp_serial (by kernel_rfl) (by kernel_rfl) (by repeat with_reducible (first | apply NoBad.then | apply NoBad.inBlock | apply NoBad.jump | exact NoBad.rets)) ?_) | fail)
            all_goals go_roundw
            all_goals first
              | exact ⟨k + 1, r8, l ++ [⟨nm, ty, tt, d⟩], ao2, cap2, by first | rfl | go_num, by go_num, rcj_next (x := ⟨nm, ty, tt, d⟩) Jh.out hlt (X9.out.upd.alloc _) (X9.out.mem.to0 (by repeat first | with_reducible (first | exact Upd.refl _ _ | assumption | apply Upd.drew | apply Upd.alloc) | refine Upd0.tr ?_ (by with_reducible assumption) | refine Upd.setCell ?_ (fun h => absurd h (by first | exact Nat.lt_irrefl _ | (simp only []; omega))) _)) hpE hlt2 hrAh.out huAh.out hfAh.out hres2.out⟩
              | (simp [intOf]; omega)
          · obtain ⟨⟨a0, a1⟩, a2⟩ := a
            have a3b : ((ty : Int) == 41) = true := by rw [a0]; rfl
            clear a0
            have a4 : ¬ (k : Int) < 200 := by omega
            rw [decide_eq_false a2, Bool.false_and] at hWe
            go_wp2_with (first
              | (go_at_call 51; (with_reducible refine (hN0.out _ (Jh.out.mem.to0 (by repeat first | with_reducible (first | exact Upd.refl _ _ | assumption | apply Upd.drew | apply Upd.alloc) | refine Upd0.tr ?_ (by with_reducible assumption) | refine Upd.setCell ?_ (fun h => absurd h (by first | exact Nat.lt_irrefl _ | (simp only []; omega))) _))).use ?_); rintro v w1 ⟨rfl, hm1, hu1⟩; have X1 := Lib.hid (XI.new (nm := nm) hm1 hu1 hwr); clear hm1)
              | (go_at_call 49; have _t := tk1; clear tk1 _t; (with_reducible refine (hN1.out _ X1.out.mem).use ?_); rintro v w2 ⟨rfl, hm2, hu2⟩; have X2 := Lib.hid (X1.out.call hm2 hu2); obtain ⟨y2a, y2b, y2c, y2d, y2e⟩ := four X2.out.blk; obtain ⟨z2a, z2b, z2c, z2d⟩ := X2.out.mem.cells; have hl2a := blk_lt X2.out.blk; have hl2b := X2.out.mem.lt; clear hm2)
              | (go_at_call 49; have _t := tk2; clear tk2 _t; (with_reducible refine (hN2.out _ (X2.out.set1 _).mem).use ?_); rintro v w3 ⟨rfl, hm3, hu3⟩; have X3 := Lib.hid ((X2.out.set1 _).call hm3 hu3); obtain ⟨y3a, y3b, y3c, y3d, y3e⟩ := four X3.out.blk; obtain ⟨z3a, z3b, z3c, z3d⟩ := X3.out.mem.cells; have hl3a := blk_lt X3.out.blk; have hl3b := X3.out.mem.lt; clear hm3)
              | (go_at_call 50; have _t := tk3; clear tk3 _t; (with_reducible refine (hWc.out _ _ X3.out.mem rfl).use ?_); rintro v w4 ⟨rfl, hm4, hu4⟩; have X4 := Lib.hid (X3.out.call hm4 hu4); obtain ⟨y4a, y4b, y4c, y4d, y4e⟩ := four X4.out.blk; have hl4a := blk_lt X4.out.blk; have hl4b := X4.out.mem.lt; clear hm4)
              | (go_at_call 49; have _t := tk4; clear tk4 _t; (with_reducible refine (hN3.out _ X4.out.mem).use ?_); rintro v w5 ⟨rfl, hm5, hu5⟩; have X5 := Lib.hid (X4.out.call hm5 hu5); obtain ⟨y5a, y5b, y5c, y5d, y5e⟩ := four X5.out.blk; obtain ⟨z5a, z5b, z5c, z5d⟩ := X5.out.mem.cells; have hl5a := blk_lt X5.out.blk; have hl5b := X5.out.mem.lt; clear hm5)
              | (go_at_call 49; have _t := tk5; clear tk5 _t; (with_reducible refine (hN4.out _ ((X5.out.set2 tt).mem.to0 (by repeat first | with_reducible (first | exact Upd.refl _ _ | assumption | apply Upd.drew | apply Upd.alloc) | refine Upd0.tr ?_ (by with_reducible assumption) | refine Upd.setCell ?_ (fun h => absurd h (by first | exact Nat.lt_irrefl _ | (simp only []; omega))) _))).use ?_); rintro v w6 ⟨rfl, hm6, hu6⟩; have X6 := Lib.hid (((X5.out.set2 tt).up0 (by repeat first | with_reducible (first | exact Upd.refl _ _ | assumption | apply Upd.drew | apply Upd.alloc) | refine Upd0.tr ?_ (by with_reducible assumption) | refine Upd.setCell ?_ (fun h => absurd h (by first | exact Nat.lt_irrefl _ | (simp only []; omega))) _)).call hm6 hu6); obtain ⟨y6a, y6b, y6c, y6d, y6e⟩ := four X6.out.blk; obtain ⟨z6a, z6b, z6c, z6d⟩ := X6.out.mem.cells; have hl6a := blk_lt X6.out.blk; have hl6b := X6.out.mem.lt; clear hm6)
              | (go_at_call 70; (with_reducible refine (hDa.out _ (X6.out.mem.to0 (by repeat first | with_reducible (first | exact Upd.refl _ _ | assumption | apply Upd.drew | apply Upd.alloc) | refine Upd0.tr ?_ (by with_reducible assumption) | refine Upd.setCell ?_ (fun h => absurd h (by first | exact Nat.lt_irrefl _ | (simp only []; omega))) _))).use ?_); rintro v w7 ⟨rfl, hm7, hu7⟩; have X7 := Lib.hid ((X6.out.up0 (by repeat first | with_reducible (first | exact Upd.refl _ _ | assumption | apply Upd.drew | apply Upd.alloc) | refine Upd0.tr ?_ (by with_reducible assumption) | refine Upd.setCell ?_ (fun h => absurd h (by first | exact Nat.lt_irrefl _ | (simp only []; omega))) _)).call hm7 hu7); obtain ⟨y7a, y7b, y7c, y7d, y7e⟩ := four X7.out.blk; obtain ⟨z7a, z7b, z7c, z7d⟩ := X7.out.mem.cells; have hl7a := blk_lt X7.out.blk; have hl7b := X7.out.mem.lt; clear hm7)
              | (go_at_call 50; (with_reducible refine (hWe.out _ _ ((X7.out.set3 d).up0 (by repeat first | with_reducible (first | exact Upd.refl _ _ | assumption | apply Upd.drew | apply Upd.alloc) | refine Upd0.tr ?_ (by with_reducible assumption) | refine Upd.setCell ?_ (fun h => absurd h (by first | exact Nat.lt_irrefl _ | (simp only []; omega))) _)).mem rfl).use ?_); rintro v w9 ⟨rfl, hm9, hu9⟩; have X9 := Lib.hid (((X7.out.set3 d).up0 (by repeat first | with_reducible (first | exact Upd.refl _ _ | assumption | apply Upd.drew | apply Upd.alloc) | refine Upd0.tr ?_ (by with_reducible assumption) | refine Upd.setCell ?_ (fun h => absurd h (by first | exact Nat.lt_irrefl _ | (simp only []; omega))) _)).call hm9 hu9); obtain ⟨y9a, y9b, y9c, y9d, y9e⟩ := four X9.out.blk; have hl9a := blk_lt X9.out.blk; have hl9b := X9.out.mem.lt; have hrow9 := Lib.hid (ownsRow_upd Jh.out.own X9.out.upd (fun g hg e => by have := Jh.out.fre g hg; omega)); clear hm9)
              | (at_builtin; refine wpList_app (w := w9) (by repeat first | exact Ext.refl _ | assumption | apply Ext.drew | apply Ext.alloc) rfl (.tmp 105) (.tmp 107) 23 rfl 46 i0 _ 4 48 Try.underlying23 hi hz0 hz1 hz2 rfl (by decide) _ _ _ hrow9.out rfl _ _ _ [.string ⟨nm.toArray⟩, .int .i64 ty, .int .i64 tt, .string ⟨d.toArray⟩] rfl rfl (alloc_last _ _ _ (by simp)) rfl (by omega) (by omega) ?_; intro ao2 cap2 wA hrA huA hfA; have hrAh := Lib.hid hrA; have huAh := Lib.hid huA; have hfAh := Lib.hid hfA; clear hrA huA hfA)
              | (with_reducible refine wp_serial2 2 4 [0,3,4,1,2,5,6,7] [_, _, _, _, _, _, _, _] (by kernel_rfl) (by decide +kernel) rfl (by repeat with_reducible (first | apply NoBad.then | apply NoBad.inBlock | apply NoBad.jump | exact NoBad.rets)) ?_ ?_)
              | (with_reducible refine wp_serial (by kernel_rfl) (by kernel_rfl) (by repeat with_reducible (first | apply NoBad.then | apply NoBad.inBlock | apply NoBad.jump | exact NoBad.rets)) ?_) | fail)
            all_goals go_roundw
            all_goals first
              | exact ⟨k + 1, r8, l ++ [⟨nm, ty, tt, d⟩], ao2, cap2, by first | rfl | go_num, by go_num, rcj_next (x := ⟨nm, ty, tt, d⟩) Jh.out hlt (X9.out.upd.alloc _) (X9.out.mem.to0 (by repeat first | with_reducible (first | exact Upd.refl _ _ | assumption | apply Upd.drew | apply Upd.alloc) | refine Upd0.tr ?_ (by with_reducible assumption) | refine Upd.setCell ?_ (fun h => absurd h (by first | exact Nat.lt_irrefl _ | (simp only []; omega))) _)) hpE hlt2 hrAh.out huAh.out hfAh.out hres2.out⟩
              | (simp [intOf]; omega)
    · obtain rfl : k = n := by omega
      have hres2 := Lib.hid (show R = ((l, 0), rr) by have := Jh.out.res; rw [Nat.sub_self, rcF] at this; exact this)
      go_wp2_with (first | (with_reducible refine wp_serial (by kernel_rfl) (by kernel_rfl) (by repeat with_reducible (first | apply NoBad.then | apply NoBad.inBlock | apply NoBad.jump | exact NoBad.rets)) ?_) | fail)
      go_returns
      rw [hres2.out]
      exact ⟨ao, cap, by rw [Jh.out.len]; rfl, own_rsr Jh.out.own (by rw [Jh.out.len]), Jh.out.mem, Jh.out.upd, fun g o e => Jh.out.fre g (by rw [e]; rfl)⟩
end Go.Proofs.Ytgdejgfmhndbhaa
