/-
  The document's Encode.
-/
import Derived.Test.YtgdejgfmhndbhaaRfR
import Derived.Test.YtgdejgfmhndbhaaMsG
import Derived.Test.YtgdejgfmhndbhaaWrE
namespace Go.Proofs.Ytgdejgfmhndbhaa
open Go.RowKit
set_option linter.unusedSimpArgs false
set_option linter.unusedVariables false
variable {B : Nat}
theorem rfm_new (w1 : World) : RfM w1.heap.size (w1.alloc (.cells #[.slice none 0 0, .slice none 0 0] 68 (0, 0))) w1.heap.size ⟨[], []⟩ :=
  ⟨.slice none 0 0, .slice none 0 0, alloc_last _ _ _ rfl, BR.none0 _ _ _, ⟨rfl, .inl ⟨rfl, rfl⟩⟩, Nat.le_refl _, fun k hk => by cases hk⟩
theorem bit_z (b : Bool) (z : Int) (n g : Nat) (hz : z = (n : Nat)) (hg : b2n b n = g) (w : World) : Calls Try.prog 37 #[.bool b, .int .i64 z] w (Rets fun r w' => r = .int .i64 (g : Nat) ∧ Upd0 w w') := by
  subst hz hg; exact bit_w b n w
theorem rnum2 (t : Nat) (s s' : Wr) (z : Int) (n : Nat) (hz : z = (n : Nat)) (hs : s.add (wd2 n) = s') (w : World) (h : RfM B w t s) (hl : s.b.length ≤ 50000000) (hn : n < 9223372036854775808) :
    Calls Try.prog 36 #[.pointer (some ⟨t, 0, none⟩), .int .i64 z, .int .i64 2] w (Rets fun r w' => r = .tuple #[] ∧ UpdF B w w' ∧ RfM B w' t s') := by
  subst hs
  have := rnumber_z t s z n 2 2 hz rfl w h hl (by decide) hn
  rw [wid2] at this
  exact this
theorem rnum1 (t : Nat) (s s' : Wr) (z : Int) (n : Nat) (hz : z = (n : Nat)) (hs : s.add [UInt8.ofNat n] = s') (w : World) (h : RfM B w t s) (hl : s.b.length ≤ 50000000) (hn : n < 9223372036854775808) :
    Calls Try.prog 36 #[.pointer (some ⟨t, 0, none⟩), .int .i64 z, .int .i64 1] w (Rets fun r w' => r = .tuple #[] ∧ UpdF B w w' ∧ RfM B w' t s') := by
  subst hs
  have := rnumber_z t s z n 1 1 hz rfl w h hl (by decide) hn
  rw [wid1] at this
  exact this
theorem opt_eq {m : Msg} {z : Nat} (h : m.sz = (z : Nat)) (hz : ¬ z = 0) (s : Wr) : (optW m s).b = (((s.add [0, 0, 41]).add (wd2 z)).add [0, 0, 0, 0, 0, 0]).b := by
  rw [optW, if_neg (by rw [h]; omega), h]
  simp [Wr.add, wd2, w4]
theorem wd2_flg (m : Msg) (h1 : 0 ≤ m.op) (h2 : m.op ≤ 15) (h3 : 0 ≤ m.rc) (h4 : m.rc ≤ 15) : wd2 (flg m) = [UInt8.ofNat (b2n m.re 128 + 8 * m.op.toNat + b2n m.au 4 + b2n m.tr 2 + b2n m.wa 1), UInt8.ofNat (b2n m.av 128 + m.rc.toNat)] := by
  have e : ∀ (b : Bool) (k n : Nat), b2n b (k * n) = k * b2n b n := fun b k n => by cases b <;> simp [b2n]
  have e1 := e m.re 256 128
  have e2 := e m.au 256 4
  have e3 := e m.tr 256 2
  have e4 := e m.wa 256 1
  have hv : b2n m.av 128 ≤ 128 := by unfold b2n; split <;> omega
  have hf : flg m = 256 * (b2n m.re 128 + 8 * m.op.toNat + b2n m.au 4 + b2n m.tr 2 + b2n m.wa 1) + (b2n m.av 128 + m.rc.toNat) := by
    unfold flg
    rw [show 32768 = 256 * 128 from rfl, show 1024 = 256 * 4 from rfl, show 512 = 256 * 2 from rfl, e1, e2, e3]
    rw [show b2n m.wa 256 = 256 * b2n m.wa 1 from e4]
    omega
  rw [hf, wd2]
  congr 1
  · congr 1; omega
  · congr 1
    apply UInt8.toNat_inj.1
    rw [UInt8.toNat_ofNat', UInt8.toNat_ofNat']
    omega
set_option maxRecDepth 100000 in
set_option maxHeartbeats 32000000 in
theorem renc_z (i0 o0 c0 : Nat) (re au tr wa av : Bool) (qs : List Qn) (an ns ex : List Rc) (q a n x : Option Addr) (cq ca cn cx : Nat) (w : World) (h : MsR w ⟨(i0 : Nat), re, (o0 : Nat), au, tr, wa, av, (c0 : Nat), qs, an, ns, ex, 0⟩ q a n x) (hm : Mid ⟨(i0 : Nat), re, (o0 : Nat), au, tr, wa, av, (c0 : Nat), qs, an, ns, ex, 0⟩) (hB : msgB ⟨(i0 : Nat), re, (o0 : Nat), au, tr, wa, av, (c0 : Nat), qs, an, ns, ex, 0⟩ = true) :
    Calls Try.prog 19 #[Msg.val ⟨(i0 : Nat), re, (o0 : Nat), au, tr, wa, av, (c0 : Nat), qs, an, ns, ex, 0⟩ q a n x cq ca cn cx] w (Rets fun r w' => r = .tuple #[.string ⟨(encS ⟨(i0 : Nat), re, (o0 : Nat), au, tr, wa, av, (c0 : Nat), qs, an, ns, ex, 0⟩).toArray⟩, .int .i64 (encC ⟨(i0 : Nat), re, (o0 : Nat), au, tr, wa, av, (c0 : Nat), qs, an, ns, ex, 0⟩)] ∧ Upd0 w w') := by
  have hc0 : msgC ⟨(i0 : Nat), re, (o0 : Nat), au, tr, wa, av, (c0 : Nat), qs, an, ns, ex, 0⟩ = 0 := by rw [msgC, hB]; rfl
  have hC := Lib.hid (fun (w' : World) (k : Upd0 w w') => rcheckm_w ⟨(i0 : Nat), re, (o0 : Nat), au, tr, wa, av, (c0 : Nat), qs, an, ns, ex, 0⟩ q a n x cq ca cn cx w' (h.up k) hm)
  rw [hc0] at hC
  have hok := msg_ok hB
  have hEC : encC ⟨(i0 : Nat), re, (o0 : Nat), au, tr, wa, av, (c0 : Nat), qs, an, ns, ex, 0⟩ = if (encW ⟨(i0 : Nat), re, (o0 : Nat), au, tr, wa, av, (c0 : Nat), qs, an, ns, ex, 0⟩).b.length ≤ 65535 then 0 else 4 := by rw [encC, hB]; rfl
  have hES : encS ⟨(i0 : Nat), re, (o0 : Nat), au, tr, wa, av, (c0 : Nat), qs, an, ns, ex, 0⟩ = if encC ⟨(i0 : Nat), re, (o0 : Nat), au, tr, wa, av, (c0 : Nat), qs, an, ns, ex, 0⟩ = 0 then (encW ⟨(i0 : Nat), re, (o0 : Nat), au, tr, wa, av, (c0 : Nat), qs, an, ns, ex, 0⟩).b else [] := rfl
  obtain ⟨E, hE⟩ : ∃ E, (encW ⟨(i0 : Nat), re, (o0 : Nat), au, tr, wa, av, (c0 : Nat), qs, an, ns, ex, 0⟩).b = E := ⟨_, rfl⟩
  obtain ⟨EC, hEC'⟩ : ∃ c, encC ⟨(i0 : Nat), re, (o0 : Nat), au, tr, wa, av, (c0 : Nat), qs, an, ns, ex, 0⟩ = c := ⟨_, rfl⟩
  obtain ⟨ES, hES'⟩ : ∃ c, encS ⟨(i0 : Nat), re, (o0 : Nat), au, tr, wa, av, (c0 : Nat), qs, an, ns, ex, 0⟩ = c := ⟨_, rfl⟩
  rw [hE, hEC'] at hEC
  rw [hE, hEC', hES'] at hES
  rw [hEC', hES']
  have o15 : o0 ≤ 15 := by have := hok.op.2; simp only [] at this; omega
  have c15 : c0 ≤ 15 := by have := hok.rc.2; simp only [] at this; omega
  have i65 : i0 ≤ 65535 := by have := hok.id.2; simp only [] at this; omega
  obtain ⟨q10, hqo⟩ := hok.qs
  obtain ⟨a200, hao⟩ := hok.an
  obtain ⟨n200, hno⟩ := hok.ns
  obtain ⟨x200, hxo⟩ := hok.ex
  simp only [] at q10 hqo a200 hao n200 hno x200 hxo
  have hqoh := Lib.hid hqo
  have haoh := Lib.hid hao
  have hnoh := Lib.hid hno
  have hxoh := Lib.hid hxo
  have hflg := wd2_flg ⟨(i0 : Nat), re, (o0 : Nat), au, tr, wa, av, (c0 : Nat), qs, an, ns, ex, 0⟩ (by show (0 : Int) ≤ (o0 : Nat); omega) (by show ((o0 : Nat) : Int) ≤ 15; omega) (by show (0 : Int) ≤ (c0 : Nat); omega) (by show ((c0 : Nat) : Int) ≤ 15; omega)
  simp only [Int.toNat_natCast] at hflg
  obtain ⟨g1, hg1⟩ : ∃ g, b2n re 128 = g := ⟨_, rfl⟩
  obtain ⟨g2, hg2⟩ : ∃ g, b2n au 4 = g := ⟨_, rfl⟩
  obtain ⟨g3, hg3⟩ : ∃ g, b2n tr 2 = g := ⟨_, rfl⟩
  obtain ⟨g4, hg4⟩ : ∃ g, b2n wa 1 = g := ⟨_, rfl⟩
  obtain ⟨g5, hg5⟩ : ∃ g, b2n av 128 = g := ⟨_, rfl⟩
  have bd : ∀ (b : Bool) (n : Nat), b2n b n ≤ n := fun b n => by unfold b2n; split <;> omega
  have l1 : g1 ≤ 128 := hg1 ▸ bd re 128
  have l2 : g2 ≤ 4 := hg2 ▸ bd au 4
  have l3 : g3 ≤ 2 := hg3 ▸ bd tr 2
  have l4 : g4 ≤ 1 := hg4 ▸ bd wa 1
  have l5 : g5 ≤ 128 := hg5 ▸ bd av 128
  rw [hg1, hg2, hg3, hg4, hg5] at hflg
  have hB1 := Lib.hid (fun w' => bit_z re 128 128 g1 rfl hg1 w')
  have hB2 := Lib.hid (fun w' => bit_z au 4 4 g2 rfl hg2 w')
  have hB3 := Lib.hid (fun w' => bit_z tr 2 2 g3 rfl hg3 w')
  have hB4 := Lib.hid (fun w' => bit_z wa 1 1 g4 rfl hg4 w')
  have hB5 := Lib.hid (fun w' => bit_z av 128 128 g5 rfl hg5 w')
  have hB6 := Lib.hid (fun w' => bit_z false 1 1 0 rfl rfl w')
  -- the writer's states
  obtain ⟨s1, hs1⟩ : ∃ s, (⟨[], []⟩ : Wr).add (wd2 i0) = s := ⟨_, rfl⟩
  obtain ⟨s2, hs2⟩ : ∃ s, s1.add [UInt8.ofNat (g1 + 8 * o0 + g2 + g3 + g4)] = s := ⟨_, rfl⟩
  obtain ⟨s3, hs3⟩ : ∃ s, s2.add [UInt8.ofNat (g5 + c0)] = s := ⟨_, rfl⟩
  obtain ⟨s4, hs4⟩ : ∃ s, s3.add (wd2 qs.length) = s := ⟨_, rfl⟩
  obtain ⟨s5, hs5⟩ : ∃ s, s4.add (wd2 an.length) = s := ⟨_, rfl⟩
  obtain ⟨s6, hs6⟩ : ∃ s, s5.add (wd2 ns.length) = s := ⟨_, rfl⟩
  obtain ⟨s7, hs7⟩ : ∃ s, s6.add (wd2 (ex.length + 0)) = s := ⟨_, rfl⟩
  have hH : s7 = (⟨headW ⟨(i0 : Nat), re, (o0 : Nat), au, tr, wa, av, (c0 : Nat), qs, an, ns, ex, 0⟩, []⟩ : Wr) := by
    rw [← hs7, ← hs6, ← hs5, ← hs4, ← hs3, ← hs2, ← hs1]
    simp only [headW, Int.toNat_natCast, hflg, Wr.add]
    simp [b2n, wd2]
  have ll : s1.b.length = 2 ∧ s2.b.length = 3 ∧ s3.b.length = 4 ∧ s4.b.length = 6 ∧ s5.b.length = 8 ∧ s6.b.length = 10 ∧ s7.b.length = 12 ∧ s7.pl = [] := by
    rw [← hs7, ← hs6, ← hs5, ← hs4, ← hs3, ← hs2, ← hs1]
    simp [Wr.add, wd2]
  obtain ⟨ll1, ll2, ll3, ll4, ll5, ll6, ll7, llp⟩ := ll
  have hN1 := Lib.hid (fun (B t : Nat) (w' : World) (h : RfM B w' t ⟨[], []⟩) => rnum2 t ⟨[], []⟩ s1 i0 i0 rfl hs1 w' h (by simp) (by omega))
  have hN2 := Lib.hid (fun (B t : Nat) (z : Int) (hz : z = ((g1 + 8 * o0 + g2 + g3 + g4 : Nat) : Int)) (w' : World) (h : RfM B w' t s1) => rnum1 t s1 s2 z _ hz hs2 w' h (by omega) (by omega))
  have hN3 := Lib.hid (fun (B t : Nat) (z : Int) (hz : z = ((g5 + c0 : Nat) : Int)) (w' : World) (h : RfM B w' t s2) => rnum1 t s2 s3 z _ hz hs3 w' h (by omega) (by omega))
  have hN4 := Lib.hid (fun (B t : Nat) (w' : World) (h : RfM B w' t s3) => rnum2 t s3 s4 qs.length _ rfl hs4 w' h (by omega) (by omega))
  have hN5 := Lib.hid (fun (B t : Nat) (w' : World) (h : RfM B w' t s4) => rnum2 t s4 s5 an.length _ rfl hs5 w' h (by omega) (by omega))
  have hN6 := Lib.hid (fun (B t : Nat) (w' : World) (h : RfM B w' t s5) => rnum2 t s5 s6 ns.length _ rfl hs6 w' h (by omega) (by omega))
  have hN7 := Lib.hid (fun (B t : Nat) (z : Int) (hz : z = ((ex.length + 0 : Nat) : Int)) (w' : World) (h : RfM B w' t s6) => rnum2 t s6 s7 z _ hz hs7 w' h (by omega) (by omega))
  have hhh := Lib.hid h
  have hEE := Lib.hid (show E = (optW ⟨(i0 : Nat), re, (o0 : Nat), au, tr, wa, av, (c0 : Nat), qs, an, ns, ex, 0⟩ (recsW ex (recsW ns (recsW an (qusW qs s7))))).b by rw [← hE, hH]; rfl)
  have hECh := Lib.hid hEC
  have hESh := Lib.hid hES
  clear h hm hB hc0 hok hE hEC' hES' hEC hES hqo hao hno hxo hflg hg1 hg2 hg3 hg4 hg5 hs1 hs2 hs3 hs4 hs5 hs6 hs7 hH bd
  simp only [Msg.val] at hC ⊢
  have tk1 : True := trivial
  have tk2 : True := trivial
  have tk3 : True := trivial
  have tk4 : True := trivial
  have tk5 : True := trivial
  have tk6 : True := trivial
  go_enter Try.func19, Try.ntmps19
  go_wp2_with (first
    | (go_at_call 21; (with_reducible refine (hC.out _ (by repeat first | with_reducible (first | exact Upd.refl _ _ | assumption | apply Upd.drew | apply Upd.alloc) | refine Upd0.tr ?_ (by with_reducible assumption) | refine Upd.setCell ?_ (fun h => absurd h (by first | exact Nat.lt_irrefl _ | (simp only []; omega))) _)).use ?_); rintro v w1 ⟨rfl, hu1⟩; have b1 := Lib.hid (show w1.heap[w.heap.size]? = some (.cells #[.int .i64 (i0 : Nat), .bool re, .int .i64 (o0 : Nat), .bool au, .bool tr, .bool wa, .bool av, .int .i64 (c0 : Nat), .slice q qs.length cq, .slice a an.length ca, .slice n ns.length cn, .slice x ex.length cx, .int .i64 0] 25 (0, 0)) from hu1.block (fun h => h) (alloc_last _ _ _ rfl)); obtain ⟨p10, p11, p12, p13, p14, p15, p16, p17, p18, p19, p1A, p1B, p1C⟩ := cell13w b1.out; have hl1 := blk_lt b1.out; have hR1 := Lib.hid (hhh.out.up (show Upd0 w w1 from (by repeat first | with_reducible (first | exact Upd.refl _ _ | assumption | apply Upd.drew | apply Upd.alloc) | refine Upd0.tr ?_ (by with_reducible assumption) | refine Upd.setCell ?_ (fun h => absurd h (by first | exact Nat.lt_irrefl _ | (simp only []; omega))) _))))
    | (go_at_call 36; have _t := tk1; clear tk1 _t; (with_reducible refine (hN1.out w1.heap.size w1.heap.size _ (rfm_new w1)).use ?_); rintro v w2 ⟨rfl, hu2, hc2⟩; have k2 := Lib.hid hc2; clear hc2; have U2 := Lib.hid (show Upd0 w1 w2 from (by repeat first | with_reducible (first | exact Upd.refl _ _ | assumption | apply Upd.drew | apply Upd.alloc) | refine Upd0.tr ?_ (by with_reducible assumption) | refine UpdW.fin ?_ (by with_reducible assumption) | refine UpdF.fin ?_ (by with_reducible assumption) | refine Upd.setCell ?_ (fun h => absurd h (by first | exact Nat.lt_irrefl _ | (simp only []; omega))) _)); have b2 := Lib.hid (U2.out.block (fun h => h) b1.out); obtain ⟨p20, p21, p22, p23, p24, p25, p26, p27, p28, p29, p2A, p2B, p2C⟩ := cell13w b2.out; have hl2 := blk_lt b2.out)
    | ((with_reducible refine S8.wp_serial3_4 128 [] [0, 1, 2, 4, 5, 6, 8, 9, 12, 13, 16, 17] 3 [7] 10 [11] 14 [15] 18 [19, 20] [_, _, _, _, _, _, _, _, _, _, _, _] _ [_] _ [_] _ [_] _ [_, _] (by kernel_rfl) (by decide +kernel) rfl rfl rfl rfl rfl rfl rfl rfl rfl (by refine ⟨by first | decide | simp, fun s hs => absurd hs List.not_mem_nil⟩) (by repeat with_reducible (first | apply NoBad.then | apply NoBad.inBlock | apply NoBad.jump | exact NoBad.rets)) ?_))
    | ((with_reducible refine S8.wp_serial3_1 128 [] [0, 1, 2, 4, 5] 3 [6, 7] [_, _, _, _, _] _ [_, _] (by kernel_rfl) (by decide +kernel) rfl rfl rfl (by refine ⟨by first | decide | simp, fun s hs => absurd hs List.not_mem_nil⟩) (by repeat with_reducible (first | apply NoBad.then | apply NoBad.inBlock | apply NoBad.jump | exact NoBad.rets)) ?_))
    | ((with_reducible refine S8.wp_serial3_1 128 [] [4, 5, 6, 0, 1, 2, 3] 7 [8, 9] [_, _, _, _, _, _, _] _ [_, _] (by kernel_rfl) (by decide +kernel) rfl rfl rfl (by refine ⟨by first | decide | simp, fun s hs => absurd hs List.not_mem_nil⟩) (by repeat with_reducible (first | apply NoBad.then | apply NoBad.inBlock | apply NoBad.jump | exact NoBad.rets)) ?_))
    | (go_at_call 37; (with_reducible refine (hB1.out _).use ?_); rintro v f1 ⟨rfl, huf1⟩)
    | (go_at_call 37; (with_reducible refine (hB2.out _).use ?_); rintro v f2 ⟨rfl, huf2⟩)
    | (go_at_call 37; (with_reducible refine (hB3.out _).use ?_); rintro v f3 ⟨rfl, huf3⟩)
    | (go_at_call 37; (with_reducible refine (hB4.out _).use ?_); rintro v f4 ⟨rfl, huf4⟩)
    | (go_at_call 37; (with_reducible refine (hB5.out _).use ?_); rintro v f5 ⟨rfl, huf5⟩)
    | (go_at_call 37; (with_reducible refine (hB6.out _).use ?_); rintro v f6 ⟨rfl, huf6⟩)
    | (refine And.intro (And.intro huf6.ext rfl) ?_)
    | (refine And.intro (And.intro huf5.ext rfl) ?_)
    | (refine And.intro (And.intro huf4.ext rfl) ?_)
    | (refine And.intro (And.intro huf3.ext rfl) ?_)
    | (refine And.intro (And.intro huf2.ext rfl) ?_)
    | (refine And.intro (And.intro huf1.ext rfl) ?_)
    | (go_at_call 36; have _t := tk2; clear tk2 _t; (with_reducible refine (hN2.out w1.heap.size w1.heap.size _ (by first | rfl | (push_cast; omega) | omega) _ (k2.out.to0 (by repeat first | with_reducible (first | exact Upd.refl _ _ | assumption | apply Upd.drew | apply Upd.alloc) | refine Upd0.tr ?_ (by with_reducible assumption) | refine Upd.setCell ?_ (fun h => absurd h (by first | exact Nat.lt_irrefl _ | (simp only []; omega))) _))).use ?_); rintro v w3 ⟨rfl, hu3, hc3⟩; have k3 := Lib.hid hc3; clear hc3; have U3 := Lib.hid (show Upd0 w1 w3 from (by repeat first | with_reducible (first | exact Upd.refl _ _ | assumption | apply Upd.drew | apply Upd.alloc) | refine Upd0.tr ?_ (by with_reducible assumption) | refine UpdW.fin ?_ (by with_reducible assumption) | refine UpdF.fin ?_ (by with_reducible assumption) | refine Upd.setCell ?_ (fun h => absurd h (by first | exact Nat.lt_irrefl _ | (simp only []; omega))) _)); have b3 := Lib.hid (U3.out.block (fun h => h) b1.out); obtain ⟨p30, p31, p32, p33, p34, p35, p36, p37, p38, p39, p3A, p3B, p3C⟩ := cell13w b3.out; have hl3 := blk_lt b3.out)
    | (go_at_call 36; have _t := tk3; clear tk3 _t; (with_reducible refine (hN3.out w1.heap.size w1.heap.size _ (by first | rfl | (push_cast; omega) | omega) _ (k3.out.to0 (by repeat first | with_reducible (first | exact Upd.refl _ _ | assumption | apply Upd.drew | apply Upd.alloc) | refine Upd0.tr ?_ (by with_reducible assumption) | refine Upd.setCell ?_ (fun h => absurd h (by first | exact Nat.lt_irrefl _ | (simp only []; omega))) _))).use ?_); rintro v w4 ⟨rfl, hu4, hc4⟩; have k4 := Lib.hid hc4; clear hc4; have U4 := Lib.hid (show Upd0 w1 w4 from (by repeat first | with_reducible (first | exact Upd.refl _ _ | assumption | apply Upd.drew | apply Upd.alloc) | refine Upd0.tr ?_ (by with_reducible assumption) | refine UpdW.fin ?_ (by with_reducible assumption) | refine UpdF.fin ?_ (by with_reducible assumption) | refine Upd.setCell ?_ (fun h => absurd h (by first | exact Nat.lt_irrefl _ | (simp only []; omega))) _)); have b4 := Lib.hid (U4.out.block (fun h => h) b1.out); obtain ⟨p40, p41, p42, p43, p44, p45, p46, p47, p48, p49, p4A, p4B, p4C⟩ := cell13w b4.out; have hl4 := blk_lt b4.out)
    | (go_at_call 36; have _t := tk4; clear tk4 _t; (with_reducible refine (hN4.out w1.heap.size w1.heap.size _ (k4.out.to0 (by repeat first | with_reducible (first | exact Upd.refl _ _ | assumption | apply Upd.drew | apply Upd.alloc) | refine Upd0.tr ?_ (by with_reducible assumption) | refine Upd.setCell ?_ (fun h => absurd h (by first | exact Nat.lt_irrefl _ | (simp only []; omega))) _))).use ?_); rintro v w5 ⟨rfl, hu5, hc5⟩; have k5 := Lib.hid hc5; clear hc5; have U5 := Lib.hid (show Upd0 w1 w5 from (by repeat first | with_reducible (first | exact Upd.refl _ _ | assumption | apply Upd.drew | apply Upd.alloc) | refine Upd0.tr ?_ (by with_reducible assumption) | refine UpdW.fin ?_ (by with_reducible assumption) | refine UpdF.fin ?_ (by with_reducible assumption) | refine Upd.setCell ?_ (fun h => absurd h (by first | exact Nat.lt_irrefl _ | (simp only []; omega))) _)); have b5 := Lib.hid (U5.out.block (fun h => h) b1.out); obtain ⟨p50, p51, p52, p53, p54, p55, p56, p57, p58, p59, p5A, p5B, p5C⟩ := cell13w b5.out; have hl5 := blk_lt b5.out)
    | (go_at_call 36; have _t := tk5; clear tk5 _t; (with_reducible refine (hN5.out w1.heap.size w1.heap.size _ (k5.out.to0 (by repeat first | with_reducible (first | exact Upd.refl _ _ | assumption | apply Upd.drew | apply Upd.alloc) | refine Upd0.tr ?_ (by with_reducible assumption) | refine Upd.setCell ?_ (fun h => absurd h (by first | exact Nat.lt_irrefl _ | (simp only []; omega))) _))).use ?_); rintro v w6 ⟨rfl, hu6, hc6⟩; have k6 := Lib.hid hc6; clear hc6; have U6 := Lib.hid (show Upd0 w1 w6 from (by repeat first | with_reducible (first | exact Upd.refl _ _ | assumption | apply Upd.drew | apply Upd.alloc) | refine Upd0.tr ?_ (by with_reducible assumption) | refine UpdW.fin ?_ (by with_reducible assumption) | refine UpdF.fin ?_ (by with_reducible assumption) | refine Upd.setCell ?_ (fun h => absurd h (by first | exact Nat.lt_irrefl _ | (simp only []; omega))) _)); have b6 := Lib.hid (U6.out.block (fun h => h) b1.out); obtain ⟨p60, p61, p62, p63, p64, p65, p66, p67, p68, p69, p6A, p6B, p6C⟩ := cell13w b6.out; have hl6 := blk_lt b6.out)
    | (go_at_call 36; have _t := tk6; clear tk6 _t; (with_reducible refine (hN6.out w1.heap.size w1.heap.size _ (k6.out.to0 (by repeat first | with_reducible (first | exact Upd.refl _ _ | assumption | apply Upd.drew | apply Upd.alloc) | refine Upd0.tr ?_ (by with_reducible assumption) | refine Upd.setCell ?_ (fun h => absurd h (by first | exact Nat.lt_irrefl _ | (simp only []; omega))) _))).use ?_); rintro v w7 ⟨rfl, hu7, hc7⟩; have k7 := Lib.hid hc7; clear hc7; have U7 := Lib.hid (show Upd0 w1 w7 from (by repeat first | with_reducible (first | exact Upd.refl _ _ | assumption | apply Upd.drew | apply Upd.alloc) | refine Upd0.tr ?_ (by with_reducible assumption) | refine UpdW.fin ?_ (by with_reducible assumption) | refine UpdF.fin ?_ (by with_reducible assumption) | refine Upd.setCell ?_ (fun h => absurd h (by first | exact Nat.lt_irrefl _ | (simp only []; omega))) _)); have b7 := Lib.hid (U7.out.block (fun h => h) b1.out); obtain ⟨p70, p71, p72, p73, p74, p75, p76, p77, p78, p79, p7A, p7B, p7C⟩ := cell13w b7.out; have hl7 := blk_lt b7.out)
    | (go_at_call 36; (with_reducible refine (hN7.out w1.heap.size w1.heap.size _ (by first | rfl | (push_cast; omega) | omega) _ (k7.out.to0 (by repeat first | with_reducible (first | exact Upd.refl _ _ | assumption | apply Upd.drew | apply Upd.alloc) | refine Upd0.tr ?_ (by with_reducible assumption) | refine Upd.setCell ?_ (fun h => absurd h (by first | exact Nat.lt_irrefl _ | (simp only []; omega))) _))).use ?_); rintro v w8 ⟨rfl, hu8, hc8⟩; have k8 := Lib.hid hc8; clear hc8; have U8 := Lib.hid (show Upd0 w1 w8 from (by repeat first | with_reducible (first | exact Upd.refl _ _ | assumption | apply Upd.drew | apply Upd.alloc) | refine Upd0.tr ?_ (by with_reducible assumption) | refine UpdW.fin ?_ (by with_reducible assumption) | refine UpdF.fin ?_ (by with_reducible assumption) | refine Upd.setCell ?_ (fun h => absurd h (by first | exact Nat.lt_irrefl _ | (simp only []; omega))) _)); have b8 := Lib.hid (U8.out.block (fun h => h) b1.out); obtain ⟨p80, p81, p82, p83, p84, p85, p86, p87, p88, p89, p8A, p8B, p8C⟩ := cell13w b8.out; have hl8 := blk_lt b8.out)
    | (with_reducible refine wp_serial (by kernel_rfl) (by kernel_rfl) (by repeat with_reducible (first | apply NoBad.then | apply NoBad.inBlock | apply NoBad.jump | exact NoBad.rets)) ?_) | fail)
  go_loopw [5] (fun jj wr => ∃ i : Nat, i ≤ qs.length ∧ jj = .int .i64 i ∧ Hid (Upd0 w1 wr) ∧ Hid (RfM w1.heap.size wr w1.heap.size (qusW (qs.take i) s7))) (fun jj _ => qs.length - (intOf jj).toNat)
  case atStart => exact ⟨0, Nat.zero_le _, rfl, Lib.hid U8.out, Lib.hid (by simpa [qusW] using k8.out)⟩
  case round =>
    obtain ⟨i, hi, rfl, hU, hM⟩ := hrel
    have bR := Lib.hid (hU.out.block (fun h => h) b1.out)
    obtain ⟨pR0, pR1, pR2, pR3, pR4, pR5, pR6, pR7, pR8, pR9, pRA, pRB, pRC⟩ := cell13w bR.out
    have hlR := blk_lt bR.out
    have hUu := hU.out
    by_cases hlt : i < qs.length
    · obtain ⟨y, hx⟩ : ∃ x, qs[i]? = some x := ⟨qs[i], List.getElem?_eq_getElem hlt⟩
      obtain ⟨g, o, rfl, hg, e0, e1⟩ := hR1.out.qs.some hx
      have hgw : g < wr.heap.size := Nat.lt_of_lt_of_le hg hU.out.size
      have d0 := hU.out.cell (fun h => h) e0
      have d1 := hU.out.cell (fun h => h) e1
      have hlb : (qusW (qs.take i) s7).b.length ≤ 5000 := by
        have h1 := qus_le s7 (all_tk hqoh.out i)
        simp only [List.length_take] at h1
        omega
      have hpl : (qusW (qs.take i) s7).pl.length ≤ (qusW (qs.take i) s7).b.length := qus_pl (all_tk hqoh.out i) (by rw [llp]; simp)
      have hyo := all_at hqoh.out hx
      simp only [Qn.ok, Bool.and_eq_true, decide_eq_true_eq] at hyo
      obtain ⟨y1, y2, y3, _⟩ := hyo
      have hsn := Lib.hid (qus_snoc hx s7)
      obtain ⟨S, hS⟩ : ∃ S, qusW (qs.take i) s7 = S := ⟨_, rfl⟩
      rw [hS] at hlb hM hsn hpl
      obtain ⟨nm, ty⟩ := y
      simp only [] at d0 d1 y1 y2 y3
      have hnb := nameW_len S y1
      have hn254 := (cut_lab y1).1
      have hNm := Lib.hid (fun (w' : World) (h : RfM w1.heap.size w' w1.heap.size S) => rname_w nm y1 w1.heap.size S w' h (by omega) hpl)
      obtain ⟨S2, hS2⟩ : ∃ s, nameW nm S = s := ⟨_, rfl⟩
      rw [hS2] at hNm hnb
      obtain ⟨S3, hS3⟩ : ∃ s, S2.add (wd2 ty.toNat) = s := ⟨_, rfl⟩
      obtain ⟨S4, hS4⟩ : ∃ s, S3.add (wd2 1) = s := ⟨_, rfl⟩
      have lS3 : S3.b.length = S2.b.length + 2 := by rw [← hS3]; simp [Wr.add, wd2]
      have hM1 := Lib.hid (fun (w' : World) (h : RfM w1.heap.size w' w1.heap.size S2) => rnum2 w1.heap.size S2 S3 ty ty.toNat (by omega) hS3 w' h (by omega) (by omega))
      have hM2 := Lib.hid (fun (w' : World) (h : RfM w1.heap.size w' w1.heap.size S3) => rnum2 w1.heap.size S3 S4 1 1 rfl hS4 w' h (by omega) (by decide))
      have hnx := Lib.hid (show qusW (qs.take (i + 1)) s7 = S4 by rw [hsn.out, quW, ← hS4, ← hS3, ← hS2])
      clear hx e0 e1 hS y1 hS2 hS3 hS4 hsn
      have tkq : True := trivial
      go_wp2_with (first
        | (go_at_call 38; (with_reducible refine (hNm.out _ (hM.out.to0 (by repeat first | with_reducible (first | exact Upd.refl _ _ | assumption | apply Upd.drew | apply Upd.alloc) | refine Upd0.tr ?_ (by with_reducible assumption) | refine Upd.setCell ?_ (fun h => absurd h (by first | exact Nat.lt_irrefl _ | (simp only []; omega))) _))).use ?_); rintro v v1 ⟨rfl, hv1, hd1⟩; have j1 := Lib.hid hd1; clear hd1; have V1 := Lib.hid (show Upd0 w1 v1 from (by repeat first | with_reducible (first | exact Upd.refl _ _ | assumption | apply Upd.drew | apply Upd.alloc) | refine Upd0.tr ?_ (by with_reducible assumption) | refine UpdW.fin ?_ (by with_reducible assumption) | refine UpdF.fin ?_ (by with_reducible assumption) | refine Upd.setCell ?_ (fun h => absurd h (by first | exact Nat.lt_irrefl _ | (simp only []; omega))) _)); have c1 := Lib.hid (V1.out.block (fun h => h) b1.out); obtain ⟨pv10, pv11, pv12, pv13, pv14, pv15, pv16, pv17, pv18, pv19, pv1A, pv1B, pv1C⟩ := cell13w c1.out; have hm1 := blk_lt c1.out; have x1a := hv1.old hg d0; have x1b := hv1.old hg d1)
        | (go_at_call 36; have _t := tkq; clear tkq _t; (with_reducible refine (hM1.out _ (j1.out.to0 (by repeat first | with_reducible (first | exact Upd.refl _ _ | assumption | apply Upd.drew | apply Upd.alloc) | refine Upd0.tr ?_ (by with_reducible assumption) | refine Upd.setCell ?_ (fun h => absurd h (by first | exact Nat.lt_irrefl _ | (simp only []; omega))) _))).use ?_); rintro v v2 ⟨rfl, hv2, hd2⟩; have j2 := Lib.hid hd2; clear hd2; have V2 := Lib.hid (show Upd0 w1 v2 from (by repeat first | with_reducible (first | exact Upd.refl _ _ | assumption | apply Upd.drew | apply Upd.alloc) | refine Upd0.tr ?_ (by with_reducible assumption) | refine UpdW.fin ?_ (by with_reducible assumption) | refine UpdF.fin ?_ (by with_reducible assumption) | refine Upd.setCell ?_ (fun h => absurd h (by first | exact Nat.lt_irrefl _ | (simp only []; omega))) _)); have c2 := Lib.hid (V2.out.block (fun h => h) b1.out); obtain ⟨pv20, pv21, pv22, pv23, pv24, pv25, pv26, pv27, pv28, pv29, pv2A, pv2B, pv2C⟩ := cell13w c2.out; have hm2 := blk_lt c2.out; have x2a := hv2.old hg x1a; have x2b := hv2.old hg x1b)
        | (go_at_call 36; (with_reducible refine (hM2.out _ (j2.out.to0 (by repeat first | with_reducible (first | exact Upd.refl _ _ | assumption | apply Upd.drew | apply Upd.alloc) | refine Upd0.tr ?_ (by with_reducible assumption) | refine Upd.setCell ?_ (fun h => absurd h (by first | exact Nat.lt_irrefl _ | (simp only []; omega))) _))).use ?_); rintro v v3 ⟨rfl, hv3, hd3⟩; have j3 := Lib.hid hd3; clear hd3; have V3 := Lib.hid (show Upd0 w1 v3 from (by repeat first | with_reducible (first | exact Upd.refl _ _ | assumption | apply Upd.drew | apply Upd.alloc) | refine Upd0.tr ?_ (by with_reducible assumption) | refine UpdW.fin ?_ (by with_reducible assumption) | refine UpdF.fin ?_ (by with_reducible assumption) | refine Upd.setCell ?_ (fun h => absurd h (by first | exact Nat.lt_irrefl _ | (simp only []; omega))) _)); have c3 := Lib.hid (V3.out.block (fun h => h) b1.out); obtain ⟨pv30, pv31, pv32, pv33, pv34, pv35, pv36, pv37, pv38, pv39, pv3A, pv3B, pv3C⟩ := cell13w c3.out; have hm3 := blk_lt c3.out; have x3a := hv3.old hg x2a; have x3b := hv3.old hg x2b)
        | (with_reducible refine wp_serial (by kernel_rfl) (by kernel_rfl) (by repeat with_reducible (first | apply NoBad.then | apply NoBad.inBlock | apply NoBad.jump | exact NoBad.rets)) ?_) | fail)
      go_roundw
      case rel => exact ⟨i + 1, by omega, by go_num, Lib.hid V3.out, Lib.hid (by rw [hnx.out]; exact j3.out)⟩
      case measure => simp [intOf]; omega
    · obtain rfl : i = qs.length := by omega
      rw [List.take_length] at hM
      have hlb : (qusW qs s7).b.length ≤ 5000 := by
        have h1 := qus_le s7 hqoh.out
        omega
      have hpl : (qusW qs s7).pl.length ≤ (qusW qs s7).b.length := qus_pl hqoh.out (by rw [llp]; simp)
      obtain ⟨S, hS⟩ : ∃ S, qusW qs s7 = S := ⟨_, rfl⟩
      have hE1 := hEE.out
      rw [hS] at hlb hM hpl hE1
      have hA := Lib.hid (fun (w' : World) (h0 : Upd0 w1 w') (h : RfM w1.heap.size w' w1.heap.size S) => rrecords_w a ca an w1.heap.size S w1 w' h0 rfl hR1.out.an haoh.out a200 h (by omega) hpl)
      have lA := recs_le S haoh.out
      have pA := recs_pl haoh.out hpl
      obtain ⟨SA, hSA⟩ : ∃ S', recsW an S = S' := ⟨_, rfl⟩
      rw [hSA] at hA lA pA hE1
      have hN := Lib.hid (fun (w' : World) (h0 : Upd0 w1 w') (h : RfM w1.heap.size w' w1.heap.size SA) => rrecords_w n cn ns w1.heap.size SA w1 w' h0 rfl hR1.out.ns hnoh.out n200 h (by omega) pA)
      have lN := recs_le SA hnoh.out
      have pN := recs_pl hnoh.out pA
      obtain ⟨SN, hSN⟩ : ∃ S', recsW ns SA = S' := ⟨_, rfl⟩
      rw [hSN] at hN lN pN hE1
      have hX := Lib.hid (fun (w' : World) (h0 : Upd0 w1 w') (h : RfM w1.heap.size w' w1.heap.size SN) => rrecords_w x cx ex w1.heap.size SN w1 w' h0 rfl hR1.out.ex hxoh.out x200 h (by omega) pN)
      have lX := recs_le SN hxoh.out
      obtain ⟨SX, hSX⟩ : ∃ S', recsW ex SN = S' := ⟨_, rfl⟩
      rw [hSX] at hX lX hE1
      clear hS hSA hSN hSX
      have tka : True := trivial
      have tkb : True := trivial
      have hE2 := Lib.hid (show E = SX.b from hE1)
      have SF_ : SX = SX := rfl
      by_cases hbig : SX.b.length ≤ 65535
      · have hEC2 : EC = 0 := by rw [hECh.out, hE2.out, if_pos hbig]
        have hES2 : ES = SX.b := by rw [hESh.out, hEC2, if_pos rfl, hE2.out]
        have hb2 : ¬ (65535 : Int) < (SX.b.length : Int) := by omega
        have hEC3 := Lib.hid hEC2
        have hES3 := Lib.hid hES2
        clear hEC2 hES2
        go_wp2_with (first
          | (go_at_call 39; have _t := tka; clear tka _t; (with_reducible refine (hA.out _ (by repeat first | with_reducible (first | exact Upd.refl _ _ | assumption | apply Upd.drew | apply Upd.alloc) | refine Upd0.tr ?_ (by with_reducible assumption) | refine UpdW.fin ?_ (by with_reducible assumption) | refine UpdF.fin ?_ (by with_reducible assumption) | refine Upd.setCell ?_ (fun h => absurd h (by first | exact Nat.lt_irrefl _ | (simp only []; omega))) _) (hM.out.to0 (by repeat first | with_reducible (first | exact Upd.refl _ _ | assumption | apply Upd.drew | apply Upd.alloc) | refine Upd0.tr ?_ (by with_reducible assumption) | refine Upd.setCell ?_ (fun h => absurd h (by first | exact Nat.lt_irrefl _ | (simp only []; omega))) _))).use ?_); rintro v u1 ⟨rfl, hv1, hd1⟩; have j1 := Lib.hid hd1; clear hd1; have V1 := Lib.hid (show Upd0 w1 u1 from (by repeat first | with_reducible (first | exact Upd.refl _ _ | assumption | apply Upd.drew | apply Upd.alloc) | refine Upd0.tr ?_ (by with_reducible assumption) | refine UpdW.fin ?_ (by with_reducible assumption) | refine UpdF.fin ?_ (by with_reducible assumption) | refine Upd.setCell ?_ (fun h => absurd h (by first | exact Nat.lt_irrefl _ | (simp only []; omega))) _)); have c1 := Lib.hid (V1.out.block (fun h => h) b1.out); obtain ⟨pu10, pu11, pu12, pu13, pu14, pu15, pu16, pu17, pu18, pu19, pu1A, pu1B, pu1C⟩ := cell13w c1.out; have hm1 := blk_lt c1.out)
          | (go_at_call 39; have _t := tkb; clear tkb _t; (with_reducible refine (hN.out _ (by repeat first | with_reducible (first | exact Upd.refl _ _ | assumption | apply Upd.drew | apply Upd.alloc) | refine Upd0.tr ?_ (by with_reducible assumption) | refine UpdW.fin ?_ (by with_reducible assumption) | refine UpdF.fin ?_ (by with_reducible assumption) | refine Upd.setCell ?_ (fun h => absurd h (by first | exact Nat.lt_irrefl _ | (simp only []; omega))) _) (j1.out.to0 (by repeat first | with_reducible (first | exact Upd.refl _ _ | assumption | apply Upd.drew | apply Upd.alloc) | refine Upd0.tr ?_ (by with_reducible assumption) | refine Upd.setCell ?_ (fun h => absurd h (by first | exact Nat.lt_irrefl _ | (simp only []; omega))) _))).use ?_); rintro v u2 ⟨rfl, hv2, hd2⟩; have j2 := Lib.hid hd2; clear hd2; have V2 := Lib.hid (show Upd0 w1 u2 from (by repeat first | with_reducible (first | exact Upd.refl _ _ | assumption | apply Upd.drew | apply Upd.alloc) | refine Upd0.tr ?_ (by with_reducible assumption) | refine UpdW.fin ?_ (by with_reducible assumption) | refine UpdF.fin ?_ (by with_reducible assumption) | refine Upd.setCell ?_ (fun h => absurd h (by first | exact Nat.lt_irrefl _ | (simp only []; omega))) _)); have c2 := Lib.hid (V2.out.block (fun h => h) b1.out); obtain ⟨pu20, pu21, pu22, pu23, pu24, pu25, pu26, pu27, pu28, pu29, pu2A, pu2B, pu2C⟩ := cell13w c2.out; have hm2 := blk_lt c2.out)
          | (go_at_call 39; (with_reducible refine (hX.out _ (by repeat first | with_reducible (first | exact Upd.refl _ _ | assumption | apply Upd.drew | apply Upd.alloc) | refine Upd0.tr ?_ (by with_reducible assumption) | refine UpdW.fin ?_ (by with_reducible assumption) | refine UpdF.fin ?_ (by with_reducible assumption) | refine Upd.setCell ?_ (fun h => absurd h (by first | exact Nat.lt_irrefl _ | (simp only []; omega))) _) (j2.out.to0 (by repeat first | with_reducible (first | exact Upd.refl _ _ | assumption | apply Upd.drew | apply Upd.alloc) | refine Upd0.tr ?_ (by with_reducible assumption) | refine Upd.setCell ?_ (fun h => absurd h (by first | exact Nat.lt_irrefl _ | (simp only []; omega))) _))).use ?_); rintro v u3 ⟨rfl, hv3, hd3⟩; have j3 := Lib.hid hd3; clear hd3; have V3 := Lib.hid (show Upd0 w1 u3 from (by repeat first | with_reducible (first | exact Upd.refl _ _ | assumption | apply Upd.drew | apply Upd.alloc) | refine Upd0.tr ?_ (by with_reducible assumption) | refine UpdW.fin ?_ (by with_reducible assumption) | refine UpdF.fin ?_ (by with_reducible assumption) | refine Upd.setCell ?_ (fun h => absurd h (by first | exact Nat.lt_irrefl _ | (simp only []; omega))) _)); have c3 := Lib.hid (V3.out.block (fun h => h) b1.out); obtain ⟨pu30, pu31, pu32, pu33, pu34, pu35, pu36, pu37, pu38, pu39, pu3A, pu3B, pu3C⟩ := cell13w c3.out; have hm3 := blk_lt c3.out; obtain ⟨vb, vp, hI⟩ := j3.out; obtain ⟨bo, bc, rfl⟩ := hI.row.isSlice; obtain ⟨t0, t1, t2⟩ := two_w hI.blk; have hIh := Lib.hid hI; clear hI)
          | ((show Go.wpList _ _ _ (Go.Oper.mk _ (Go.Op.convert _ _ (Go.Operand.tmp 126)) _ _ _ _ :: _) _ _); refine wpList_ofB rfl (.tmp 126) 38 9 rfl 5 Try.underlying38 Try.underlying5 Try.underlying9 rfl (hIh.out.row.up (by repeat first | with_reducible (first | exact Upd.refl _ _ | assumption | apply Upd.drew | apply Upd.alloc) | refine Upd0.tr ?_ (by with_reducible assumption) | refine Upd.setCell ?_ (fun h => absurd h (by first | exact Nat.lt_irrefl _ | (simp only []; omega))) _)) ?_)
          | (with_reducible refine wp_serial (by kernel_rfl) (by kernel_rfl) (by repeat with_reducible (first | apply NoBad.then | apply NoBad.inBlock | apply NoBad.jump | exact NoBad.rets)) ?_) | fail)
        all_goals (try go_returns)
        all_goals exact ⟨by rw [hEC3.out, hES3.out]; rfl, (show Upd0 w w1 from (by repeat first | with_reducible (first | exact Upd.refl _ _ | assumption | apply Upd.drew | apply Upd.alloc) | refine Upd0.tr ?_ (by with_reducible assumption) | refine Upd.setCell ?_ (fun h => absurd h (by first | exact Nat.lt_irrefl _ | (simp only []; omega))) _)).tr V3.out⟩
      · have hEC2 : EC = 4 := by rw [hECh.out, hE2.out, if_neg hbig]
        have hES2 : ES = [] := by rw [hESh.out, hEC2]; rfl
        have hb2 : (65535 : Int) < (SX.b.length : Int) := by omega
        have hEC3 := Lib.hid hEC2
        have hES3 := Lib.hid hES2
        clear hEC2 hES2
        go_wp2_with (first
          | (go_at_call 39; have _t := tka; clear tka _t; (with_reducible refine (hA.out _ (by repeat first | with_reducible (first | exact Upd.refl _ _ | assumption | apply Upd.drew | apply Upd.alloc) | refine Upd0.tr ?_ (by with_reducible assumption) | refine UpdW.fin ?_ (by with_reducible assumption) | refine UpdF.fin ?_ (by with_reducible assumption) | refine Upd.setCell ?_ (fun h => absurd h (by first | exact Nat.lt_irrefl _ | (simp only []; omega))) _) (hM.out.to0 (by repeat first | with_reducible (first | exact Upd.refl _ _ | assumption | apply Upd.drew | apply Upd.alloc) | refine Upd0.tr ?_ (by with_reducible assumption) | refine Upd.setCell ?_ (fun h => absurd h (by first | exact Nat.lt_irrefl _ | (simp only []; omega))) _))).use ?_); rintro v u1 ⟨rfl, hv1, hd1⟩; have j1 := Lib.hid hd1; clear hd1; have V1 := Lib.hid (show Upd0 w1 u1 from (by repeat first | with_reducible (first | exact Upd.refl _ _ | assumption | apply Upd.drew | apply Upd.alloc) | refine Upd0.tr ?_ (by with_reducible assumption) | refine UpdW.fin ?_ (by with_reducible assumption) | refine UpdF.fin ?_ (by with_reducible assumption) | refine Upd.setCell ?_ (fun h => absurd h (by first | exact Nat.lt_irrefl _ | (simp only []; omega))) _)); have c1 := Lib.hid (V1.out.block (fun h => h) b1.out); obtain ⟨pu10, pu11, pu12, pu13, pu14, pu15, pu16, pu17, pu18, pu19, pu1A, pu1B, pu1C⟩ := cell13w c1.out; have hm1 := blk_lt c1.out)
          | (go_at_call 39; have _t := tkb; clear tkb _t; (with_reducible refine (hN.out _ (by repeat first | with_reducible (first | exact Upd.refl _ _ | assumption | apply Upd.drew | apply Upd.alloc) | refine Upd0.tr ?_ (by with_reducible assumption) | refine UpdW.fin ?_ (by with_reducible assumption) | refine UpdF.fin ?_ (by with_reducible assumption) | refine Upd.setCell ?_ (fun h => absurd h (by first | exact Nat.lt_irrefl _ | (simp only []; omega))) _) (j1.out.to0 (by repeat first | with_reducible (first | exact Upd.refl _ _ | assumption | apply Upd.drew | apply Upd.alloc) | refine Upd0.tr ?_ (by with_reducible assumption) | refine Upd.setCell ?_ (fun h => absurd h (by first | exact Nat.lt_irrefl _ | (simp only []; omega))) _))).use ?_); rintro v u2 ⟨rfl, hv2, hd2⟩; have j2 := Lib.hid hd2; clear hd2; have V2 := Lib.hid (show Upd0 w1 u2 from (by repeat first | with_reducible (first | exact Upd.refl _ _ | assumption | apply Upd.drew | apply Upd.alloc) | refine Upd0.tr ?_ (by with_reducible assumption) | refine UpdW.fin ?_ (by with_reducible assumption) | refine UpdF.fin ?_ (by with_reducible assumption) | refine Upd.setCell ?_ (fun h => absurd h (by first | exact Nat.lt_irrefl _ | (simp only []; omega))) _)); have c2 := Lib.hid (V2.out.block (fun h => h) b1.out); obtain ⟨pu20, pu21, pu22, pu23, pu24, pu25, pu26, pu27, pu28, pu29, pu2A, pu2B, pu2C⟩ := cell13w c2.out; have hm2 := blk_lt c2.out)
          | (go_at_call 39; (with_reducible refine (hX.out _ (by repeat first | with_reducible (first | exact Upd.refl _ _ | assumption | apply Upd.drew | apply Upd.alloc) | refine Upd0.tr ?_ (by with_reducible assumption) | refine UpdW.fin ?_ (by with_reducible assumption) | refine UpdF.fin ?_ (by with_reducible assumption) | refine Upd.setCell ?_ (fun h => absurd h (by first | exact Nat.lt_irrefl _ | (simp only []; omega))) _) (j2.out.to0 (by repeat first | with_reducible (first | exact Upd.refl _ _ | assumption | apply Upd.drew | apply Upd.alloc) | refine Upd0.tr ?_ (by with_reducible assumption) | refine Upd.setCell ?_ (fun h => absurd h (by first | exact Nat.lt_irrefl _ | (simp only []; omega))) _))).use ?_); rintro v u3 ⟨rfl, hv3, hd3⟩; have j3 := Lib.hid hd3; clear hd3; have V3 := Lib.hid (show Upd0 w1 u3 from (by repeat first | with_reducible (first | exact Upd.refl _ _ | assumption | apply Upd.drew | apply Upd.alloc) | refine Upd0.tr ?_ (by with_reducible assumption) | refine UpdW.fin ?_ (by with_reducible assumption) | refine UpdF.fin ?_ (by with_reducible assumption) | refine Upd.setCell ?_ (fun h => absurd h (by first | exact Nat.lt_irrefl _ | (simp only []; omega))) _)); have c3 := Lib.hid (V3.out.block (fun h => h) b1.out); obtain ⟨pu30, pu31, pu32, pu33, pu34, pu35, pu36, pu37, pu38, pu39, pu3A, pu3B, pu3C⟩ := cell13w c3.out; have hm3 := blk_lt c3.out; obtain ⟨vb, vp, hI⟩ := j3.out; obtain ⟨bo, bc, rfl⟩ := hI.row.isSlice; obtain ⟨t0, t1, t2⟩ := two_w hI.blk; have hIh := Lib.hid hI; clear hI)
          | (with_reducible refine wp_serial (by kernel_rfl) (by kernel_rfl) (by repeat with_reducible (first | apply NoBad.then | apply NoBad.inBlock | apply NoBad.jump | exact NoBad.rets)) ?_) | fail)
        all_goals (try go_returns)
        all_goals exact ⟨by rw [hEC3.out, hES3.out]; rfl, (show Upd0 w w1 from (by repeat first | with_reducible (first | exact Upd.refl _ _ | assumption | apply Upd.drew | apply Upd.alloc) | refine Upd0.tr ?_ (by with_reducible assumption) | refine Upd.setCell ?_ (fun h => absurd h (by first | exact Nat.lt_irrefl _ | (simp only []; omega))) _)).tr V3.out⟩
set_option maxRecDepth 100000 in
set_option maxHeartbeats 32000000 in
theorem renc_s (i0 o0 c0 z0 : Nat) (re au tr wa av : Bool) (qs : List Qn) (an ns ex : List Rc) (q a n x : Option Addr) (cq ca cn cx : Nat) (w : World) (h : MsR w ⟨(i0 : Nat), re, (o0 : Nat), au, tr, wa, av, (c0 : Nat), qs, an, ns, ex, (z0 : Nat)⟩ q a n x) (hm : Mid ⟨(i0 : Nat), re, (o0 : Nat), au, tr, wa, av, (c0 : Nat), qs, an, ns, ex, (z0 : Nat)⟩) (hB : msgB ⟨(i0 : Nat), re, (o0 : Nat), au, tr, wa, av, (c0 : Nat), qs, an, ns, ex, (z0 : Nat)⟩ = true) (hz0 : ¬ z0 = 0) :
    Calls Try.prog 19 #[Msg.val ⟨(i0 : Nat), re, (o0 : Nat), au, tr, wa, av, (c0 : Nat), qs, an, ns, ex, (z0 : Nat)⟩ q a n x cq ca cn cx] w (Rets fun r w' => r = .tuple #[.string ⟨(encS ⟨(i0 : Nat), re, (o0 : Nat), au, tr, wa, av, (c0 : Nat), qs, an, ns, ex, (z0 : Nat)⟩).toArray⟩, .int .i64 (encC ⟨(i0 : Nat), re, (o0 : Nat), au, tr, wa, av, (c0 : Nat), qs, an, ns, ex, (z0 : Nat)⟩)] ∧ Upd0 w w') := by
  have hc0 : msgC ⟨(i0 : Nat), re, (o0 : Nat), au, tr, wa, av, (c0 : Nat), qs, an, ns, ex, (z0 : Nat)⟩ = 0 := by rw [msgC, hB]; rfl
  have hC := Lib.hid (fun (w' : World) (k : Upd0 w w') => rcheckm_w ⟨(i0 : Nat), re, (o0 : Nat), au, tr, wa, av, (c0 : Nat), qs, an, ns, ex, (z0 : Nat)⟩ q a n x cq ca cn cx w' (h.up k) hm)
  rw [hc0] at hC
  have hok := msg_ok hB
  have hEC : encC ⟨(i0 : Nat), re, (o0 : Nat), au, tr, wa, av, (c0 : Nat), qs, an, ns, ex, (z0 : Nat)⟩ = if (encW ⟨(i0 : Nat), re, (o0 : Nat), au, tr, wa, av, (c0 : Nat), qs, an, ns, ex, (z0 : Nat)⟩).b.length ≤ 65535 then 0 else 4 := by rw [encC, hB]; rfl
  have hES : encS ⟨(i0 : Nat), re, (o0 : Nat), au, tr, wa, av, (c0 : Nat), qs, an, ns, ex, (z0 : Nat)⟩ = if encC ⟨(i0 : Nat), re, (o0 : Nat), au, tr, wa, av, (c0 : Nat), qs, an, ns, ex, (z0 : Nat)⟩ = 0 then (encW ⟨(i0 : Nat), re, (o0 : Nat), au, tr, wa, av, (c0 : Nat), qs, an, ns, ex, (z0 : Nat)⟩).b else [] := rfl
  obtain ⟨E, hE⟩ : ∃ E, (encW ⟨(i0 : Nat), re, (o0 : Nat), au, tr, wa, av, (c0 : Nat), qs, an, ns, ex, (z0 : Nat)⟩).b = E := ⟨_, rfl⟩
  obtain ⟨EC, hEC'⟩ : ∃ c, encC ⟨(i0 : Nat), re, (o0 : Nat), au, tr, wa, av, (c0 : Nat), qs, an, ns, ex, (z0 : Nat)⟩ = c := ⟨_, rfl⟩
  obtain ⟨ES, hES'⟩ : ∃ c, encS ⟨(i0 : Nat), re, (o0 : Nat), au, tr, wa, av, (c0 : Nat), qs, an, ns, ex, (z0 : Nat)⟩ = c := ⟨_, rfl⟩
  rw [hE, hEC'] at hEC
  rw [hE, hEC', hES'] at hES
  rw [hEC', hES']
  have o15 : o0 ≤ 15 := by have := hok.op.2; simp only [] at this; omega
  have c15 : c0 ≤ 15 := by have := hok.rc.2; simp only [] at this; omega
  have i65 : i0 ≤ 65535 := by have := hok.id.2; simp only [] at this; omega
  have z65 : z0 ≤ 65535 := by have := hok.sz; simp only [] at this; omega
  have hzb : ((z0 : Int) != 0) = true := bne_iff_ne.2 (by omega)
  obtain ⟨q10, hqo⟩ := hok.qs
  obtain ⟨a200, hao⟩ := hok.an
  obtain ⟨n200, hno⟩ := hok.ns
  obtain ⟨x200, hxo⟩ := hok.ex
  simp only [] at q10 hqo a200 hao n200 hno x200 hxo
  have hqoh := Lib.hid hqo
  have haoh := Lib.hid hao
  have hnoh := Lib.hid hno
  have hxoh := Lib.hid hxo
  have hflg := wd2_flg ⟨(i0 : Nat), re, (o0 : Nat), au, tr, wa, av, (c0 : Nat), qs, an, ns, ex, (z0 : Nat)⟩ (by show (0 : Int) ≤ (o0 : Nat); omega) (by show ((o0 : Nat) : Int) ≤ 15; omega) (by show (0 : Int) ≤ (c0 : Nat); omega) (by show ((c0 : Nat) : Int) ≤ 15; omega)
  simp only [Int.toNat_natCast] at hflg
  obtain ⟨g1, hg1⟩ : ∃ g, b2n re 128 = g := ⟨_, rfl⟩
  obtain ⟨g2, hg2⟩ : ∃ g, b2n au 4 = g := ⟨_, rfl⟩
  obtain ⟨g3, hg3⟩ : ∃ g, b2n tr 2 = g := ⟨_, rfl⟩
  obtain ⟨g4, hg4⟩ : ∃ g, b2n wa 1 = g := ⟨_, rfl⟩
  obtain ⟨g5, hg5⟩ : ∃ g, b2n av 128 = g := ⟨_, rfl⟩
  have bd : ∀ (b : Bool) (n : Nat), b2n b n ≤ n := fun b n => by unfold b2n; split <;> omega
  have l1 : g1 ≤ 128 := hg1 ▸ bd re 128
  have l2 : g2 ≤ 4 := hg2 ▸ bd au 4
  have l3 : g3 ≤ 2 := hg3 ▸ bd tr 2
  have l4 : g4 ≤ 1 := hg4 ▸ bd wa 1
  have l5 : g5 ≤ 128 := hg5 ▸ bd av 128
  rw [hg1, hg2, hg3, hg4, hg5] at hflg
  have hB1 := Lib.hid (fun w' => bit_z re 128 128 g1 rfl hg1 w')
  have hB2 := Lib.hid (fun w' => bit_z au 4 4 g2 rfl hg2 w')
  have hB3 := Lib.hid (fun w' => bit_z tr 2 2 g3 rfl hg3 w')
  have hB4 := Lib.hid (fun w' => bit_z wa 1 1 g4 rfl hg4 w')
  have hB5 := Lib.hid (fun w' => bit_z av 128 128 g5 rfl hg5 w')
  have hB6 := Lib.hid (fun w' => bit_z true 1 1 1 rfl rfl w')
  -- the writer's states
  obtain ⟨s1, hs1⟩ : ∃ s, (⟨[], []⟩ : Wr).add (wd2 i0) = s := ⟨_, rfl⟩
  obtain ⟨s2, hs2⟩ : ∃ s, s1.add [UInt8.ofNat (g1 + 8 * o0 + g2 + g3 + g4)] = s := ⟨_, rfl⟩
  obtain ⟨s3, hs3⟩ : ∃ s, s2.add [UInt8.ofNat (g5 + c0)] = s := ⟨_, rfl⟩
  obtain ⟨s4, hs4⟩ : ∃ s, s3.add (wd2 qs.length) = s := ⟨_, rfl⟩
  obtain ⟨s5, hs5⟩ : ∃ s, s4.add (wd2 an.length) = s := ⟨_, rfl⟩
  obtain ⟨s6, hs6⟩ : ∃ s, s5.add (wd2 ns.length) = s := ⟨_, rfl⟩
  obtain ⟨s7, hs7⟩ : ∃ s, s6.add (wd2 (ex.length + 1)) = s := ⟨_, rfl⟩
  have hH : s7 = (⟨headW ⟨(i0 : Nat), re, (o0 : Nat), au, tr, wa, av, (c0 : Nat), qs, an, ns, ex, (z0 : Nat)⟩, []⟩ : Wr) := by
    rw [← hs7, ← hs6, ← hs5, ← hs4, ← hs3, ← hs2, ← hs1]
    simp only [headW, Int.toNat_natCast, hflg, Wr.add]
    simp [b2n, wd2, hz0]
  have ll : s1.b.length = 2 ∧ s2.b.length = 3 ∧ s3.b.length = 4 ∧ s4.b.length = 6 ∧ s5.b.length = 8 ∧ s6.b.length = 10 ∧ s7.b.length = 12 ∧ s7.pl = [] := by
    rw [← hs7, ← hs6, ← hs5, ← hs4, ← hs3, ← hs2, ← hs1]
    simp [Wr.add, wd2]
  obtain ⟨ll1, ll2, ll3, ll4, ll5, ll6, ll7, llp⟩ := ll
  have hN1 := Lib.hid (fun (B t : Nat) (w' : World) (h : RfM B w' t ⟨[], []⟩) => rnum2 t ⟨[], []⟩ s1 i0 i0 rfl hs1 w' h (by simp) (by omega))
  have hN2 := Lib.hid (fun (B t : Nat) (z : Int) (hz : z = ((g1 + 8 * o0 + g2 + g3 + g4 : Nat) : Int)) (w' : World) (h : RfM B w' t s1) => rnum1 t s1 s2 z _ hz hs2 w' h (by omega) (by omega))
  have hN3 := Lib.hid (fun (B t : Nat) (z : Int) (hz : z = ((g5 + c0 : Nat) : Int)) (w' : World) (h : RfM B w' t s2) => rnum1 t s2 s3 z _ hz hs3 w' h (by omega) (by omega))
  have hN4 := Lib.hid (fun (B t : Nat) (w' : World) (h : RfM B w' t s3) => rnum2 t s3 s4 qs.length _ rfl hs4 w' h (by omega) (by omega))
  have hN5 := Lib.hid (fun (B t : Nat) (w' : World) (h : RfM B w' t s4) => rnum2 t s4 s5 an.length _ rfl hs5 w' h (by omega) (by omega))
  have hN6 := Lib.hid (fun (B t : Nat) (w' : World) (h : RfM B w' t s5) => rnum2 t s5 s6 ns.length _ rfl hs6 w' h (by omega) (by omega))
  have hN7 := Lib.hid (fun (B t : Nat) (z : Int) (hz : z = ((ex.length + 1 : Nat) : Int)) (w' : World) (h : RfM B w' t s6) => rnum2 t s6 s7 z _ hz hs7 w' h (by omega) (by omega))
  have hhh := Lib.hid h
  have hEE := Lib.hid (show E = (optW ⟨(i0 : Nat), re, (o0 : Nat), au, tr, wa, av, (c0 : Nat), qs, an, ns, ex, (z0 : Nat)⟩ (recsW ex (recsW ns (recsW an (qusW qs s7))))).b by rw [← hE, hH]; rfl)
  have hECh := Lib.hid hEC
  have hESh := Lib.hid hES
  clear h hm hB hc0 hok hE hEC' hES' hEC hES hqo hao hno hxo hflg hg1 hg2 hg3 hg4 hg5 hs1 hs2 hs3 hs4 hs5 hs6 hs7 hH bd
  simp only [Msg.val] at hC ⊢
  have tk1 : True := trivial
  have tk2 : True := trivial
  have tk3 : True := trivial
  have tk4 : True := trivial
  have tk5 : True := trivial
  have tk6 : True := trivial
  go_enter Try.func19, Try.ntmps19
  go_wp2_with (first
    | (go_at_call 21; (with_reducible refine (hC.out _ (by repeat first | with_reducible (first | exact Upd.refl _ _ | assumption | apply Upd.drew | apply Upd.alloc) | refine Upd0.tr ?_ (by with_reducible assumption) | refine Upd.setCell ?_ (fun h => absurd h (by first | exact Nat.lt_irrefl _ | (simp only []; omega))) _)).use ?_); rintro v w1 ⟨rfl, hu1⟩; have b1 := Lib.hid (show w1.heap[w.heap.size]? = some (.cells #[.int .i64 (i0 : Nat), .bool re, .int .i64 (o0 : Nat), .bool au, .bool tr, .bool wa, .bool av, .int .i64 (c0 : Nat), .slice q qs.length cq, .slice a an.length ca, .slice n ns.length cn, .slice x ex.length cx, .int .i64 (z0 : Nat)] 25 (0, 0)) from hu1.block (fun h => h) (alloc_last _ _ _ rfl)); obtain ⟨p10, p11, p12, p13, p14, p15, p16, p17, p18, p19, p1A, p1B, p1C⟩ := cell13w b1.out; have hl1 := blk_lt b1.out; have hR1 := Lib.hid (hhh.out.up (show Upd0 w w1 from (by repeat first | with_reducible (first | exact Upd.refl _ _ | assumption | apply Upd.drew | apply Upd.alloc) | refine Upd0.tr ?_ (by with_reducible assumption) | refine Upd.setCell ?_ (fun h => absurd h (by first | exact Nat.lt_irrefl _ | (simp only []; omega))) _))))
    | (go_at_call 36; have _t := tk1; clear tk1 _t; (with_reducible refine (hN1.out w1.heap.size w1.heap.size _ (rfm_new w1)).use ?_); rintro v w2 ⟨rfl, hu2, hc2⟩; have k2 := Lib.hid hc2; clear hc2; have U2 := Lib.hid (show Upd0 w1 w2 from (by repeat first | with_reducible (first | exact Upd.refl _ _ | assumption | apply Upd.drew | apply Upd.alloc) | refine Upd0.tr ?_ (by with_reducible assumption) | refine UpdW.fin ?_ (by with_reducible assumption) | refine UpdF.fin ?_ (by with_reducible assumption) | refine Upd.setCell ?_ (fun h => absurd h (by first | exact Nat.lt_irrefl _ | (simp only []; omega))) _)); have b2 := Lib.hid (U2.out.block (fun h => h) b1.out); obtain ⟨p20, p21, p22, p23, p24, p25, p26, p27, p28, p29, p2A, p2B, p2C⟩ := cell13w b2.out; have hl2 := blk_lt b2.out)
    | ((with_reducible refine S8.wp_serial3_4 128 [] [0, 1, 2, 4, 5, 6, 8, 9, 12, 13, 16, 17] 3 [7] 10 [11] 14 [15] 18 [19, 20] [_, _, _, _, _, _, _, _, _, _, _, _] _ [_] _ [_] _ [_] _ [_, _] (by kernel_rfl) (by decide +kernel) rfl rfl rfl rfl rfl rfl rfl rfl rfl (by refine ⟨by first | decide | simp, fun s hs => absurd hs List.not_mem_nil⟩) (by repeat with_reducible (first | apply NoBad.then | apply NoBad.inBlock | apply NoBad.jump | exact NoBad.rets)) ?_))
    | ((with_reducible refine S8.wp_serial3_1 128 [] [0, 1, 2, 4, 5] 3 [6, 7] [_, _, _, _, _] _ [_, _] (by kernel_rfl) (by decide +kernel) rfl rfl rfl (by refine ⟨by first | decide | simp, fun s hs => absurd hs List.not_mem_nil⟩) (by repeat with_reducible (first | apply NoBad.then | apply NoBad.inBlock | apply NoBad.jump | exact NoBad.rets)) ?_))
    | ((with_reducible refine S8.wp_serial3_1 128 [] [4, 5, 6, 0, 1, 2, 3] 7 [8, 9] [_, _, _, _, _, _, _] _ [_, _] (by kernel_rfl) (by decide +kernel) rfl rfl rfl (by refine ⟨by first | decide | simp, fun s hs => absurd hs List.not_mem_nil⟩) (by repeat with_reducible (first | apply NoBad.then | apply NoBad.inBlock | apply NoBad.jump | exact NoBad.rets)) ?_))
    | (go_at_call 37; (with_reducible refine (hB1.out _).use ?_); rintro v f1 ⟨rfl, huf1⟩)
    | (go_at_call 37; (with_reducible refine (hB2.out _).use ?_); rintro v f2 ⟨rfl, huf2⟩)
    | (go_at_call 37; (with_reducible refine (hB3.out _).use ?_); rintro v f3 ⟨rfl, huf3⟩)
    | (go_at_call 37; (with_reducible refine (hB4.out _).use ?_); rintro v f4 ⟨rfl, huf4⟩)
    | (go_at_call 37; (with_reducible refine (hB5.out _).use ?_); rintro v f5 ⟨rfl, huf5⟩)
    | (go_at_call 37; (with_reducible refine (hB6.out _).use ?_); rintro v f6 ⟨rfl, huf6⟩)
    | (refine And.intro (And.intro huf6.ext rfl) ?_)
    | (refine And.intro (And.intro huf5.ext rfl) ?_)
    | (refine And.intro (And.intro huf4.ext rfl) ?_)
    | (refine And.intro (And.intro huf3.ext rfl) ?_)
    | (refine And.intro (And.intro huf2.ext rfl) ?_)
    | (refine And.intro (And.intro huf1.ext rfl) ?_)
    | (go_at_call 36; have _t := tk2; clear tk2 _t; (with_reducible refine (hN2.out w1.heap.size w1.heap.size _ (by first | rfl | (push_cast; omega) | omega) _ (k2.out.to0 (by repeat first | with_reducible (first | exact Upd.refl _ _ | assumption | apply Upd.drew | apply Upd.alloc) | refine Upd0.tr ?_ (by with_reducible assumption) | refine Upd.setCell ?_ (fun h => absurd h (by first | exact Nat.lt_irrefl _ | (simp only []; omega))) _))).use ?_); rintro v w3 ⟨rfl, hu3, hc3⟩; have k3 := Lib.hid hc3; clear hc3; have U3 := Lib.hid (show Upd0 w1 w3 from (by repeat first | with_reducible (first | exact Upd.refl _ _ | assumption | apply Upd.drew | apply Upd.alloc) | refine Upd0.tr ?_ (by with_reducible assumption) | refine UpdW.fin ?_ (by with_reducible assumption) | refine UpdF.fin ?_ (by with_reducible assumption) | refine Upd.setCell ?_ (fun h => absurd h (by first | exact Nat.lt_irrefl _ | (simp only []; omega))) _)); have b3 := Lib.hid (U3.out.block (fun h => h) b1.out); obtain ⟨p30, p31, p32, p33, p34, p35, p36, p37, p38, p39, p3A, p3B, p3C⟩ := cell13w b3.out; have hl3 := blk_lt b3.out)
    | (go_at_call 36; have _t := tk3; clear tk3 _t; (with_reducible refine (hN3.out w1.heap.size w1.heap.size _ (by first | rfl | (push_cast; omega) | omega) _ (k3.out.to0 (by repeat first | with_reducible (first | exact Upd.refl _ _ | assumption | apply Upd.drew | apply Upd.alloc) | refine Upd0.tr ?_ (by with_reducible assumption) | refine Upd.setCell ?_ (fun h => absurd h (by first | exact Nat.lt_irrefl _ | (simp only []; omega))) _))).use ?_); rintro v w4 ⟨rfl, hu4, hc4⟩; have k4 := Lib.hid hc4; clear hc4; have U4 := Lib.hid (show Upd0 w1 w4 from (by repeat first | with_reducible (first | exact Upd.refl _ _ | assumption | apply Upd.drew | apply Upd.alloc) | refine Upd0.tr ?_ (by with_reducible assumption) | refine UpdW.fin ?_ (by with_reducible assumption) | refine UpdF.fin ?_ (by with_reducible assumption) | refine Upd.setCell ?_ (fun h => absurd h (by first | exact Nat.lt_irrefl _ | (simp only []; omega))) _)); have b4 := Lib.hid (U4.out.block (fun h => h) b1.out); obtain ⟨p40, p41, p42, p43, p44, p45, p46, p47, p48, p49, p4A, p4B, p4C⟩ := cell13w b4.out; have hl4 := blk_lt b4.out)
    | (go_at_call 36; have _t := tk4; clear tk4 _t; (with_reducible refine (hN4.out w1.heap.size w1.heap.size _ (k4.out.to0 (by repeat first | with_reducible (first | exact Upd.refl _ _ | assumption | apply Upd.drew | apply Upd.alloc) | refine Upd0.tr ?_ (by with_reducible assumption) | refine Upd.setCell ?_ (fun h => absurd h (by first | exact Nat.lt_irrefl _ | (simp only []; omega))) _))).use ?_); rintro v w5 ⟨rfl, hu5, hc5⟩; have k5 := Lib.hid hc5; clear hc5; have U5 := Lib.hid (show Upd0 w1 w5 from (by repeat first | with_reducible (first | exact Upd.refl _ _ | assumption | apply Upd.drew | apply Upd.alloc) | refine Upd0.tr ?_ (by with_reducible assumption) | refine UpdW.fin ?_ (by with_reducible assumption) | refine UpdF.fin ?_ (by with_reducible assumption) | refine Upd.setCell ?_ (fun h => absurd h (by first | exact Nat.lt_irrefl _ | (simp only []; omega))) _)); have b5 := Lib.hid (U5.out.block (fun h => h) b1.out); obtain ⟨p50, p51, p52, p53, p54, p55, p56, p57, p58, p59, p5A, p5B, p5C⟩ := cell13w b5.out; have hl5 := blk_lt b5.out)
    | (go_at_call 36; have _t := tk5; clear tk5 _t; (with_reducible refine (hN5.out w1.heap.size w1.heap.size _ (k5.out.to0 (by repeat first | with_reducible (first | exact Upd.refl _ _ | assumption | apply Upd.drew | apply Upd.alloc) | refine Upd0.tr ?_ (by with_reducible assumption) | refine Upd.setCell ?_ (fun h => absurd h (by first | exact Nat.lt_irrefl _ | (simp only []; omega))) _))).use ?_); rintro v w6 ⟨rfl, hu6, hc6⟩; have k6 := Lib.hid hc6; clear hc6; have U6 := Lib.hid (show Upd0 w1 w6 from (by repeat first | with_reducible (first | exact Upd.refl _ _ | assumption | apply Upd.drew | apply Upd.alloc) | refine Upd0.tr ?_ (by with_reducible assumption) | refine UpdW.fin ?_ (by with_reducible assumption) | refine UpdF.fin ?_ (by with_reducible assumption) | refine Upd.setCell ?_ (fun h => absurd h (by first | exact Nat.lt_irrefl _ | (simp only []; omega))) _)); have b6 := Lib.hid (U6.out.block (fun h => h) b1.out); obtain ⟨p60, p61, p62, p63, p64, p65, p66, p67, p68, p69, p6A, p6B, p6C⟩ := cell13w b6.out; have hl6 := blk_lt b6.out)
    | (go_at_call 36; have _t := tk6; clear tk6 _t; (with_reducible refine (hN6.out w1.heap.size w1.heap.size _ (k6.out.to0 (by repeat first | with_reducible (first | exact Upd.refl _ _ | assumption | apply Upd.drew | apply Upd.alloc) | refine Upd0.tr ?_ (by with_reducible assumption) | refine Upd.setCell ?_ (fun h => absurd h (by first | exact Nat.lt_irrefl _ | (simp only []; omega))) _))).use ?_); rintro v w7 ⟨rfl, hu7, hc7⟩; have k7 := Lib.hid hc7; clear hc7; have U7 := Lib.hid (show Upd0 w1 w7 from (by repeat first | with_reducible (first | exact Upd.refl _ _ | assumption | apply Upd.drew | apply Upd.alloc) | refine Upd0.tr ?_ (by with_reducible assumption) | refine UpdW.fin ?_ (by with_reducible assumption) | refine UpdF.fin ?_ (by with_reducible assumption) | refine Upd.setCell ?_ (fun h => absurd h (by first | exact Nat.lt_irrefl _ | (simp only []; omega))) _)); have b7 := Lib.hid (U7.out.block (fun h => h) b1.out); obtain ⟨p70, p71, p72, p73, p74, p75, p76, p77, p78, p79, p7A, p7B, p7C⟩ := cell13w b7.out; have hl7 := blk_lt b7.out)
    | (go_at_call 36; (with_reducible refine (hN7.out w1.heap.size w1.heap.size _ (by first | rfl | (push_cast; omega) | omega) _ (k7.out.to0 (by repeat first | with_reducible (first | exact Upd.refl _ _ | assumption | apply Upd.drew | apply Upd.alloc) | refine Upd0.tr ?_ (by with_reducible assumption) | refine Upd.setCell ?_ (fun h => absurd h (by first | exact Nat.lt_irrefl _ | (simp only []; omega))) _))).use ?_); rintro v w8 ⟨rfl, hu8, hc8⟩; have k8 := Lib.hid hc8; clear hc8; have U8 := Lib.hid (show Upd0 w1 w8 from (by repeat first | with_reducible (first | exact Upd.refl _ _ | assumption | apply Upd.drew | apply Upd.alloc) | refine Upd0.tr ?_ (by with_reducible assumption) | refine UpdW.fin ?_ (by with_reducible assumption) | refine UpdF.fin ?_ (by with_reducible assumption) | refine Upd.setCell ?_ (fun h => absurd h (by first | exact Nat.lt_irrefl _ | (simp only []; omega))) _)); have b8 := Lib.hid (U8.out.block (fun h => h) b1.out); obtain ⟨p80, p81, p82, p83, p84, p85, p86, p87, p88, p89, p8A, p8B, p8C⟩ := cell13w b8.out; have hl8 := blk_lt b8.out)
    | (with_reducible refine wp_serial (by kernel_rfl) (by kernel_rfl) (by repeat with_reducible (first | apply NoBad.then | apply NoBad.inBlock | apply NoBad.jump | exact NoBad.rets)) ?_) | fail)
  go_loopw [5] (fun jj wr => ∃ i : Nat, i ≤ qs.length ∧ jj = .int .i64 i ∧ Hid (Upd0 w1 wr) ∧ Hid (RfM w1.heap.size wr w1.heap.size (qusW (qs.take i) s7))) (fun jj _ => qs.length - (intOf jj).toNat)
  case atStart => exact ⟨0, Nat.zero_le _, rfl, Lib.hid U8.out, Lib.hid (by simpa [qusW] using k8.out)⟩
  case round =>
    obtain ⟨i, hi, rfl, hU, hM⟩ := hrel
    have bR := Lib.hid (hU.out.block (fun h => h) b1.out)
    obtain ⟨pR0, pR1, pR2, pR3, pR4, pR5, pR6, pR7, pR8, pR9, pRA, pRB, pRC⟩ := cell13w bR.out
    have hlR := blk_lt bR.out
    have hUu := hU.out
    by_cases hlt : i < qs.length
    · obtain ⟨y, hx⟩ : ∃ x, qs[i]? = some x := ⟨qs[i], List.getElem?_eq_getElem hlt⟩
      obtain ⟨g, o, rfl, hg, e0, e1⟩ := hR1.out.qs.some hx
      have hgw : g < wr.heap.size := Nat.lt_of_lt_of_le hg hU.out.size
      have d0 := hU.out.cell (fun h => h) e0
      have d1 := hU.out.cell (fun h => h) e1
      have hlb : (qusW (qs.take i) s7).b.length ≤ 5000 := by
        have h1 := qus_le s7 (all_tk hqoh.out i)
        simp only [List.length_take] at h1
        omega
      have hpl : (qusW (qs.take i) s7).pl.length ≤ (qusW (qs.take i) s7).b.length := qus_pl (all_tk hqoh.out i) (by rw [llp]; simp)
      have hyo := all_at hqoh.out hx
      simp only [Qn.ok, Bool.and_eq_true, decide_eq_true_eq] at hyo
      obtain ⟨y1, y2, y3, _⟩ := hyo
      have hsn := Lib.hid (qus_snoc hx s7)
      obtain ⟨S, hS⟩ : ∃ S, qusW (qs.take i) s7 = S := ⟨_, rfl⟩
      rw [hS] at hlb hM hsn hpl
      obtain ⟨nm, ty⟩ := y
      simp only [] at d0 d1 y1 y2 y3
      have hnb := nameW_len S y1
      have hn254 := (cut_lab y1).1
      have hNm := Lib.hid (fun (w' : World) (h : RfM w1.heap.size w' w1.heap.size S) => rname_w nm y1 w1.heap.size S w' h (by omega) hpl)
      obtain ⟨S2, hS2⟩ : ∃ s, nameW nm S = s := ⟨_, rfl⟩
      rw [hS2] at hNm hnb
      obtain ⟨S3, hS3⟩ : ∃ s, S2.add (wd2 ty.toNat) = s := ⟨_, rfl⟩
      obtain ⟨S4, hS4⟩ : ∃ s, S3.add (wd2 1) = s := ⟨_, rfl⟩
      have lS3 : S3.b.length = S2.b.length + 2 := by rw [← hS3]; simp [Wr.add, wd2]
      have hM1 := Lib.hid (fun (w' : World) (h : RfM w1.heap.size w' w1.heap.size S2) => rnum2 w1.heap.size S2 S3 ty ty.toNat (by omega) hS3 w' h (by omega) (by omega))
      have hM2 := Lib.hid (fun (w' : World) (h : RfM w1.heap.size w' w1.heap.size S3) => rnum2 w1.heap.size S3 S4 1 1 rfl hS4 w' h (by omega) (by decide))
      have hnx := Lib.hid (show qusW (qs.take (i + 1)) s7 = S4 by rw [hsn.out, quW, ← hS4, ← hS3, ← hS2])
      clear hx e0 e1 hS y1 hS2 hS3 hS4 hsn
      have tkq : True := trivial
      go_wp2_with (first
        | (go_at_call 38; (with_reducible refine (hNm.out _ (hM.out.to0 (by repeat first | with_reducible (first | exact Upd.refl _ _ | assumption | apply Upd.drew | apply Upd.alloc) | refine Upd0.tr ?_ (by with_reducible assumption) | refine Upd.setCell ?_ (fun h => absurd h (by first | exact Nat.lt_irrefl _ | (simp only []; omega))) _))).use ?_); rintro v v1 ⟨rfl, hv1, hd1⟩; have j1 := Lib.hid hd1; clear hd1; have V1 := Lib.hid (show Upd0 w1 v1 from (by repeat first | with_reducible (first | exact Upd.refl _ _ | assumption | apply Upd.drew | apply Upd.alloc) | refine Upd0.tr ?_ (by with_reducible assumption) | refine UpdW.fin ?_ (by with_reducible assumption) | refine UpdF.fin ?_ (by with_reducible assumption) | refine Upd.setCell ?_ (fun h => absurd h (by first | exact Nat.lt_irrefl _ | (simp only []; omega))) _)); have c1 := Lib.hid (V1.out.block (fun h => h) b1.out); obtain ⟨pv10, pv11, pv12, pv13, pv14, pv15, pv16, pv17, pv18, pv19, pv1A, pv1B, pv1C⟩ := cell13w c1.out; have hm1 := blk_lt c1.out; have x1a := hv1.old hg d0; have x1b := hv1.old hg d1)
        | (go_at_call 36; have _t := tkq; clear tkq _t; (with_reducible refine (hM1.out _ (j1.out.to0 (by repeat first | with_reducible (first | exact Upd.refl _ _ | assumption | apply Upd.drew | apply Upd.alloc) | refine Upd0.tr ?_ (by with_reducible assumption) | refine Upd.setCell ?_ (fun h => absurd h (by first | exact Nat.lt_irrefl _ | (simp only []; omega))) _))).use ?_); rintro v v2 ⟨rfl, hv2, hd2⟩; have j2 := Lib.hid hd2; clear hd2; have V2 := Lib.hid (show Upd0 w1 v2 from (by repeat first | with_reducible (first | exact Upd.refl _ _ | assumption | apply Upd.drew | apply Upd.alloc) | refine Upd0.tr ?_ (by with_reducible assumption) | refine UpdW.fin ?_ (by with_reducible assumption) | refine UpdF.fin ?_ (by with_reducible assumption) | refine Upd.setCell ?_ (fun h => absurd h (by first | exact Nat.lt_irrefl _ | (simp only []; omega))) _)); have c2 := Lib.hid (V2.out.block (fun h => h) b1.out); obtain ⟨pv20, pv21, pv22, pv23, pv24, pv25, pv26, pv27, pv28, pv29, pv2A, pv2B, pv2C⟩ := cell13w c2.out; have hm2 := blk_lt c2.out; have x2a := hv2.old hg x1a; have x2b := hv2.old hg x1b)
        | (go_at_call 36; (with_reducible refine (hM2.out _ (j2.out.to0 (by repeat first | with_reducible (first | exact Upd.refl _ _ | assumption | apply Upd.drew | apply Upd.alloc) | refine Upd0.tr ?_ (by with_reducible assumption) | refine Upd.setCell ?_ (fun h => absurd h (by first | exact Nat.lt_irrefl _ | (simp only []; omega))) _))).use ?_); rintro v v3 ⟨rfl, hv3, hd3⟩; have j3 := Lib.hid hd3; clear hd3; have V3 := Lib.hid (show Upd0 w1 v3 from (by repeat first | with_reducible (first | exact Upd.refl _ _ | assumption | apply Upd.drew | apply Upd.alloc) | refine Upd0.tr ?_ (by with_reducible assumption) | refine UpdW.fin ?_ (by with_reducible assumption) | refine UpdF.fin ?_ (by with_reducible assumption) | refine Upd.setCell ?_ (fun h => absurd h (by first | exact Nat.lt_irrefl _ | (simp only []; omega))) _)); have c3 := Lib.hid (V3.out.block (fun h => h) b1.out); obtain ⟨pv30, pv31, pv32, pv33, pv34, pv35, pv36, pv37, pv38, pv39, pv3A, pv3B, pv3C⟩ := cell13w c3.out; have hm3 := blk_lt c3.out; have x3a := hv3.old hg x2a; have x3b := hv3.old hg x2b)
        | (with_reducible refine wp_serial (by kernel_rfl) (by kernel_rfl) (by repeat with_reducible (first | apply NoBad.then | apply NoBad.inBlock | apply NoBad.jump | exact NoBad.rets)) ?_) | fail)
      go_roundw
      case rel => exact ⟨i + 1, by omega, by go_num, Lib.hid V3.out, Lib.hid (by rw [hnx.out]; exact j3.out)⟩
      case measure => simp [intOf]; omega
    · obtain rfl : i = qs.length := by omega
      rw [List.take_length] at hM
      have hlb : (qusW qs s7).b.length ≤ 5000 := by
        have h1 := qus_le s7 hqoh.out
        omega
      have hpl : (qusW qs s7).pl.length ≤ (qusW qs s7).b.length := qus_pl hqoh.out (by rw [llp]; simp)
      obtain ⟨S, hS⟩ : ∃ S, qusW qs s7 = S := ⟨_, rfl⟩
      have hE1 := hEE.out
      rw [hS] at hlb hM hpl hE1
      have hA := Lib.hid (fun (w' : World) (h0 : Upd0 w1 w') (h : RfM w1.heap.size w' w1.heap.size S) => rrecords_w a ca an w1.heap.size S w1 w' h0 rfl hR1.out.an haoh.out a200 h (by omega) hpl)
      have lA := recs_le S haoh.out
      have pA := recs_pl haoh.out hpl
      obtain ⟨SA, hSA⟩ : ∃ S', recsW an S = S' := ⟨_, rfl⟩
      rw [hSA] at hA lA pA hE1
      have hN := Lib.hid (fun (w' : World) (h0 : Upd0 w1 w') (h : RfM w1.heap.size w' w1.heap.size SA) => rrecords_w n cn ns w1.heap.size SA w1 w' h0 rfl hR1.out.ns hnoh.out n200 h (by omega) pA)
      have lN := recs_le SA hnoh.out
      have pN := recs_pl hnoh.out pA
      obtain ⟨SN, hSN⟩ : ∃ S', recsW ns SA = S' := ⟨_, rfl⟩
      rw [hSN] at hN lN pN hE1
      have hX := Lib.hid (fun (w' : World) (h0 : Upd0 w1 w') (h : RfM w1.heap.size w' w1.heap.size SN) => rrecords_w x cx ex w1.heap.size SN w1 w' h0 rfl hR1.out.ex hxoh.out x200 h (by omega) pN)
      have lX := recs_le SN hxoh.out
      obtain ⟨SX, hSX⟩ : ∃ S', recsW ex SN = S' := ⟨_, rfl⟩
      rw [hSX] at hX lX hE1
      clear hS hSA hSN hSX
      have tka : True := trivial
      have tkb : True := trivial
      obtain ⟨T1, hT1⟩ : ∃ s, SX.add [0, 0, 41] = s := ⟨_, rfl⟩
      obtain ⟨T2, hT2⟩ : ∃ s, T1.add (wd2 z0) = s := ⟨_, rfl⟩
      obtain ⟨T3, hT3⟩ : ∃ s, T2.add [0, 0, 0, 0, 0, 0] = s := ⟨_, rfl⟩
      have lT1 : T1.b.length = SX.b.length + 3 := by rw [← hT1]; simp [Wr.add]
      have lT2 : T2.b.length = SX.b.length + 5 := by rw [← hT2, ← hT1]; simp [Wr.add, wd2]
      have hE2 := Lib.hid (show E = T3.b by
        rw [hE1, ← hT3, ← hT2, ← hT1]
        exact opt_eq (m := ⟨(i0 : Nat), re, (o0 : Nat), au, tr, wa, av, (c0 : Nat), qs, an, ns, ex, (z0 : Nat)⟩) (z := z0) rfl hz0 SX)
      have hX1 := Lib.hid (fun (w' : World) (h : RfM w1.heap.size w' w1.heap.size SX) => rtext_w w1.heap.size SX [0, 0, 41] w' h (by omega) (by simp))
      have hX2 := Lib.hid (fun (w' : World) (h : RfM w1.heap.size w' w1.heap.size T1) => rnum2 w1.heap.size T1 T2 z0 z0 rfl hT2 w' h (by omega) (by omega))
      have hX3 := Lib.hid (fun (w' : World) (h : RfM w1.heap.size w' w1.heap.size T2) => rtext_w w1.heap.size T2 [0, 0, 0, 0, 0, 0] w' h (by omega) (by simp))
      rw [hT1] at hX1
      rw [hT3] at hX3
      clear hT1 hT2 hT3
      have tkc : True := trivial
      by_cases hbig : T3.b.length ≤ 65535
      · have hEC2 : EC = 0 := by rw [hECh.out, hE2.out, if_pos hbig]
        have hES2 : ES = T3.b := by rw [hESh.out, hEC2, if_pos rfl, hE2.out]
        have hb2 : ¬ (65535 : Int) < (T3.b.length : Int) := by omega
        have hEC3 := Lib.hid hEC2
        have hES3 := Lib.hid hES2
        clear hEC2 hES2
        go_wp2_with (first
          | (go_at_call 39; have _t := tka; clear tka _t; (with_reducible refine (hA.out _ (by repeat first | with_reducible (first | exact Upd.refl _ _ | assumption | apply Upd.drew | apply Upd.alloc) | refine Upd0.tr ?_ (by with_reducible assumption) | refine UpdW.fin ?_ (by with_reducible assumption) | refine UpdF.fin ?_ (by with_reducible assumption) | refine Upd.setCell ?_ (fun h => absurd h (by first | exact Nat.lt_irrefl _ | (simp only []; omega))) _) (hM.out.to0 (by repeat first | with_reducible (first | exact Upd.refl _ _ | assumption | apply Upd.drew | apply Upd.alloc) | refine Upd0.tr ?_ (by with_reducible assumption) | refine Upd.setCell ?_ (fun h => absurd h (by first | exact Nat.lt_irrefl _ | (simp only []; omega))) _))).use ?_); rintro v u1 ⟨rfl, hv1, hd1⟩; have j1 := Lib.hid hd1; clear hd1; have V1 := Lib.hid (show Upd0 w1 u1 from (by repeat first | with_reducible (first | exact Upd.refl _ _ | assumption | apply Upd.drew | apply Upd.alloc) | refine Upd0.tr ?_ (by with_reducible assumption) | refine UpdW.fin ?_ (by with_reducible assumption) | refine UpdF.fin ?_ (by with_reducible assumption) | refine Upd.setCell ?_ (fun h => absurd h (by first | exact Nat.lt_irrefl _ | (simp only []; omega))) _)); have c1 := Lib.hid (V1.out.block (fun h => h) b1.out); obtain ⟨pu10, pu11, pu12, pu13, pu14, pu15, pu16, pu17, pu18, pu19, pu1A, pu1B, pu1C⟩ := cell13w c1.out; have hm1 := blk_lt c1.out)
          | (go_at_call 39; have _t := tkb; clear tkb _t; (with_reducible refine (hN.out _ (by repeat first | with_reducible (first | exact Upd.refl _ _ | assumption | apply Upd.drew | apply Upd.alloc) | refine Upd0.tr ?_ (by with_reducible assumption) | refine UpdW.fin ?_ (by with_reducible assumption) | refine UpdF.fin ?_ (by with_reducible assumption) | refine Upd.setCell ?_ (fun h => absurd h (by first | exact Nat.lt_irrefl _ | (simp only []; omega))) _) (j1.out.to0 (by repeat first | with_reducible (first | exact Upd.refl _ _ | assumption | apply Upd.drew | apply Upd.alloc) | refine Upd0.tr ?_ (by with_reducible assumption) | refine Upd.setCell ?_ (fun h => absurd h (by first | exact Nat.lt_irrefl _ | (simp only []; omega))) _))).use ?_); rintro v u2 ⟨rfl, hv2, hd2⟩; have j2 := Lib.hid hd2; clear hd2; have V2 := Lib.hid (show Upd0 w1 u2 from (by repeat first | with_reducible (first | exact Upd.refl _ _ | assumption | apply Upd.drew | apply Upd.alloc) | refine Upd0.tr ?_ (by with_reducible assumption) | refine UpdW.fin ?_ (by with_reducible assumption) | refine UpdF.fin ?_ (by with_reducible assumption) | refine Upd.setCell ?_ (fun h => absurd h (by first | exact Nat.lt_irrefl _ | (simp only []; omega))) _)); have c2 := Lib.hid (V2.out.block (fun h => h) b1.out); obtain ⟨pu20, pu21, pu22, pu23, pu24, pu25, pu26, pu27, pu28, pu29, pu2A, pu2B, pu2C⟩ := cell13w c2.out; have hm2 := blk_lt c2.out)
          | (go_at_call 39; (with_reducible refine (hX.out _ (by repeat first | with_reducible (first | exact Upd.refl _ _ | assumption | apply Upd.drew | apply Upd.alloc) | refine Upd0.tr ?_ (by with_reducible assumption) | refine UpdW.fin ?_ (by with_reducible assumption) | refine UpdF.fin ?_ (by with_reducible assumption) | refine Upd.setCell ?_ (fun h => absurd h (by first | exact Nat.lt_irrefl _ | (simp only []; omega))) _) (j2.out.to0 (by repeat first | with_reducible (first | exact Upd.refl _ _ | assumption | apply Upd.drew | apply Upd.alloc) | refine Upd0.tr ?_ (by with_reducible assumption) | refine Upd.setCell ?_ (fun h => absurd h (by first | exact Nat.lt_irrefl _ | (simp only []; omega))) _))).use ?_); rintro v u3 ⟨rfl, hv3, hd3⟩; have j3 := Lib.hid hd3; clear hd3; have V3 := Lib.hid (show Upd0 w1 u3 from (by repeat first | with_reducible (first | exact Upd.refl _ _ | assumption | apply Upd.drew | apply Upd.alloc) | refine Upd0.tr ?_ (by with_reducible assumption) | refine UpdW.fin ?_ (by with_reducible assumption) | refine UpdF.fin ?_ (by with_reducible assumption) | refine Upd.setCell ?_ (fun h => absurd h (by first | exact Nat.lt_irrefl _ | (simp only []; omega))) _)); have c3 := Lib.hid (V3.out.block (fun h => h) b1.out); obtain ⟨pu30, pu31, pu32, pu33, pu34, pu35, pu36, pu37, pu38, pu39, pu3A, pu3B, pu3C⟩ := cell13w c3.out; have hm3 := blk_lt c3.out)
          | (go_at_call 40; have _t := tkc; clear tkc _t; (with_reducible refine (hX1.out _ (j3.out.to0 (by repeat first | with_reducible (first | exact Upd.refl _ _ | assumption | apply Upd.drew | apply Upd.alloc) | refine Upd0.tr ?_ (by with_reducible assumption) | refine Upd.setCell ?_ (fun h => absurd h (by first | exact Nat.lt_irrefl _ | (simp only []; omega))) _))).use ?_); rintro v u4 ⟨rfl, hv4, hd4⟩; have j4 := Lib.hid hd4; clear hd4; have V4 := Lib.hid (show Upd0 w1 u4 from (by repeat first | with_reducible (first | exact Upd.refl _ _ | assumption | apply Upd.drew | apply Upd.alloc) | refine Upd0.tr ?_ (by with_reducible assumption) | refine UpdW.fin ?_ (by with_reducible assumption) | refine UpdF.fin ?_ (by with_reducible assumption) | refine Upd.setCell ?_ (fun h => absurd h (by first | exact Nat.lt_irrefl _ | (simp only []; omega))) _)); have c4 := Lib.hid (V4.out.block (fun h => h) b1.out); obtain ⟨pu40, pu41, pu42, pu43, pu44, pu45, pu46, pu47, pu48, pu49, pu4A, pu4B, pu4C⟩ := cell13w c4.out; have hm4 := blk_lt c4.out)
          | (go_at_call 36; (with_reducible refine (hX2.out _ (j4.out.to0 (by repeat first | with_reducible (first | exact Upd.refl _ _ | assumption | apply Upd.drew | apply Upd.alloc) | refine Upd0.tr ?_ (by with_reducible assumption) | refine Upd.setCell ?_ (fun h => absurd h (by first | exact Nat.lt_irrefl _ | (simp only []; omega))) _))).use ?_); rintro v u5 ⟨rfl, hv5, hd5⟩; have j5 := Lib.hid hd5; clear hd5; have V5 := Lib.hid (show Upd0 w1 u5 from (by repeat first | with_reducible (first | exact Upd.refl _ _ | assumption | apply Upd.drew | apply Upd.alloc) | refine Upd0.tr ?_ (by with_reducible assumption) | refine UpdW.fin ?_ (by with_reducible assumption) | refine UpdF.fin ?_ (by with_reducible assumption) | refine Upd.setCell ?_ (fun h => absurd h (by first | exact Nat.lt_irrefl _ | (simp only []; omega))) _)); have c5 := Lib.hid (V5.out.block (fun h => h) b1.out); obtain ⟨pu50, pu51, pu52, pu53, pu54, pu55, pu56, pu57, pu58, pu59, pu5A, pu5B, pu5C⟩ := cell13w c5.out; have hm5 := blk_lt c5.out)
          | (go_at_call 40; (with_reducible refine (hX3.out _ (j5.out.to0 (by repeat first | with_reducible (first | exact Upd.refl _ _ | assumption | apply Upd.drew | apply Upd.alloc) | refine Upd0.tr ?_ (by with_reducible assumption) | refine Upd.setCell ?_ (fun h => absurd h (by first | exact Nat.lt_irrefl _ | (simp only []; omega))) _))).use ?_); rintro v u6 ⟨rfl, hv6, hd6⟩; have j6 := Lib.hid hd6; clear hd6; have V6 := Lib.hid (show Upd0 w1 u6 from (by repeat first | with_reducible (first | exact Upd.refl _ _ | assumption | apply Upd.drew | apply Upd.alloc) | refine Upd0.tr ?_ (by with_reducible assumption) | refine UpdW.fin ?_ (by with_reducible assumption) | refine UpdF.fin ?_ (by with_reducible assumption) | refine Upd.setCell ?_ (fun h => absurd h (by first | exact Nat.lt_irrefl _ | (simp only []; omega))) _)); have c6 := Lib.hid (V6.out.block (fun h => h) b1.out); obtain ⟨pu60, pu61, pu62, pu63, pu64, pu65, pu66, pu67, pu68, pu69, pu6A, pu6B, pu6C⟩ := cell13w c6.out; have hm6 := blk_lt c6.out; obtain ⟨vb, vp, hI⟩ := j6.out; obtain ⟨bo, bc, rfl⟩ := hI.row.isSlice; obtain ⟨t0, t1, t2⟩ := two_w hI.blk; have hIh := Lib.hid hI; clear hI)
          | ((show Go.wpList _ _ _ (Go.Oper.mk _ (Go.Op.convert _ _ (Go.Operand.tmp 126)) _ _ _ _ :: _) _ _); refine wpList_ofB rfl (.tmp 126) 38 9 rfl 5 Try.underlying38 Try.underlying5 Try.underlying9 rfl (hIh.out.row.up (by repeat first | with_reducible (first | exact Upd.refl _ _ | assumption | apply Upd.drew | apply Upd.alloc) | refine Upd0.tr ?_ (by with_reducible assumption) | refine Upd.setCell ?_ (fun h => absurd h (by first | exact Nat.lt_irrefl _ | (simp only []; omega))) _)) ?_)
          | (with_reducible refine wp_serial (by kernel_rfl) (by kernel_rfl) (by repeat with_reducible (first | apply NoBad.then | apply NoBad.inBlock | apply NoBad.jump | exact NoBad.rets)) ?_) | fail)
        all_goals (try go_returns)
        all_goals exact ⟨by rw [hEC3.out, hES3.out]; rfl, (show Upd0 w w1 from (by repeat first | with_reducible (first | exact Upd.refl _ _ | assumption | apply Upd.drew | apply Upd.alloc) | refine Upd0.tr ?_ (by with_reducible assumption) | refine Upd.setCell ?_ (fun h => absurd h (by first | exact Nat.lt_irrefl _ | (simp only []; omega))) _)).tr V6.out⟩
      · have hEC2 : EC = 4 := by rw [hECh.out, hE2.out, if_neg hbig]
        have hES2 : ES = [] := by rw [hESh.out, hEC2]; rfl
        have hb2 : (65535 : Int) < (T3.b.length : Int) := by omega
        have hEC3 := Lib.hid hEC2
        have hES3 := Lib.hid hES2
        clear hEC2 hES2
        go_wp2_with (first
          | (go_at_call 39; have _t := tka; clear tka _t; (with_reducible refine (hA.out _ (by repeat first | with_reducible (first | exact Upd.refl _ _ | assumption | apply Upd.drew | apply Upd.alloc) | refine Upd0.tr ?_ (by with_reducible assumption) | refine UpdW.fin ?_ (by with_reducible assumption) | refine UpdF.fin ?_ (by with_reducible assumption) | refine Upd.setCell ?_ (fun h => absurd h (by first | exact Nat.lt_irrefl _ | (simp only []; omega))) _) (hM.out.to0 (by repeat first | with_reducible (first | exact Upd.refl _ _ | assumption | apply Upd.drew | apply Upd.alloc) | refine Upd0.tr ?_ (by with_reducible assumption) | refine Upd.setCell ?_ (fun h => absurd h (by first | exact Nat.lt_irrefl _ | (simp only []; omega))) _))).use ?_); rintro v u1 ⟨rfl, hv1, hd1⟩; have j1 := Lib.hid hd1; clear hd1; have V1 := Lib.hid (show Upd0 w1 u1 from (by repeat first | with_reducible (first | exact Upd.refl _ _ | assumption | apply Upd.drew | apply Upd.alloc) | refine Upd0.tr ?_ (by with_reducible assumption) | refine UpdW.fin ?_ (by with_reducible assumption) | refine UpdF.fin ?_ (by with_reducible assumption) | refine Upd.setCell ?_ (fun h => absurd h (by first | exact Nat.lt_irrefl _ | (simp only []; omega))) _)); have c1 := Lib.hid (V1.out.block (fun h => h) b1.out); obtain ⟨pu10, pu11, pu12, pu13, pu14, pu15, pu16, pu17, pu18, pu19, pu1A, pu1B, pu1C⟩ := cell13w c1.out; have hm1 := blk_lt c1.out)
          | (go_at_call 39; have _t := tkb; clear tkb _t; (with_reducible refine (hN.out _ (by repeat first | with_reducible (first | exact Upd.refl _ _ | assumption | apply Upd.drew | apply Upd.alloc) | refine Upd0.tr ?_ (by with_reducible assumption) | refine UpdW.fin ?_ (by with_reducible assumption) | refine UpdF.fin ?_ (by with_reducible assumption) | refine Upd.setCell ?_ (fun h => absurd h (by first | exact Nat.lt_irrefl _ | (simp only []; omega))) _) (j1.out.to0 (by repeat first | with_reducible (first | exact Upd.refl _ _ | assumption | apply Upd.drew | apply Upd.alloc) | refine Upd0.tr ?_ (by with_reducible assumption) | refine Upd.setCell ?_ (fun h => absurd h (by first | exact Nat.lt_irrefl _ | (simp only []; omega))) _))).use ?_); rintro v u2 ⟨rfl, hv2, hd2⟩; have j2 := Lib.hid hd2; clear hd2; have V2 := Lib.hid (show Upd0 w1 u2 from (by repeat first | with_reducible (first | exact Upd.refl _ _ | assumption | apply Upd.drew | apply Upd.alloc) | refine Upd0.tr ?_ (by with_reducible assumption) | refine UpdW.fin ?_ (by with_reducible assumption) | refine UpdF.fin ?_ (by with_reducible assumption) | refine Upd.setCell ?_ (fun h => absurd h (by first | exact Nat.lt_irrefl _ | (simp only []; omega))) _)); have c2 := Lib.hid (V2.out.block (fun h => h) b1.out); obtain ⟨pu20, pu21, pu22, pu23, pu24, pu25, pu26, pu27, pu28, pu29, pu2A, pu2B, pu2C⟩ := cell13w c2.out; have hm2 := blk_lt c2.out)
          | (go_at_call 39; (with_reducible refine (hX.out _ (by repeat first | with_reducible (first | exact Upd.refl _ _ | assumption | apply Upd.drew | apply Upd.alloc) | refine Upd0.tr ?_ (by with_reducible assumption) | refine UpdW.fin ?_ (by with_reducible assumption) | refine UpdF.fin ?_ (by with_reducible assumption) | refine Upd.setCell ?_ (fun h => absurd h (by first | exact Nat.lt_irrefl _ | (simp only []; omega))) _) (j2.out.to0 (by repeat first | with_reducible (first | exact Upd.refl _ _ | assumption | apply Upd.drew | apply Upd.alloc) | refine Upd0.tr ?_ (by with_reducible assumption) | refine Upd.setCell ?_ (fun h => absurd h (by first | exact Nat.lt_irrefl _ | (simp only []; omega))) _))).use ?_); rintro v u3 ⟨rfl, hv3, hd3⟩; have j3 := Lib.hid hd3; clear hd3; have V3 := Lib.hid (show Upd0 w1 u3 from (by repeat first | with_reducible (first | exact Upd.refl _ _ | assumption | apply Upd.drew | apply Upd.alloc) | refine Upd0.tr ?_ (by with_reducible assumption) | refine UpdW.fin ?_ (by with_reducible assumption) | refine UpdF.fin ?_ (by with_reducible assumption) | refine Upd.setCell ?_ (fun h => absurd h (by first | exact Nat.lt_irrefl _ | (simp only []; omega))) _)); have c3 := Lib.hid (V3.out.block (fun h => h) b1.out); obtain ⟨pu30, pu31, pu32, pu33, pu34, pu35, pu36, pu37, pu38, pu39, pu3A, pu3B, pu3C⟩ := cell13w c3.out; have hm3 := blk_lt c3.out)
          | (go_at_call 40; have _t := tkc; clear tkc _t; (with_reducible refine (hX1.out _ (j3.out.to0 (by repeat first | with_reducible (first | exact Upd.refl _ _ | assumption | apply Upd.drew | apply Upd.alloc) | refine Upd0.tr ?_ (by with_reducible assumption) | refine Upd.setCell ?_ (fun h => absurd h (by first | exact Nat.lt_irrefl _ | (simp only []; omega))) _))).use ?_); rintro v u4 ⟨rfl, hv4, hd4⟩; have j4 := Lib.hid hd4; clear hd4; have V4 := Lib.hid (show Upd0 w1 u4 from (by repeat first | with_reducible (first | exact Upd.refl _ _ | assumption | apply Upd.drew | apply Upd.alloc) | refine Upd0.tr ?_ (by with_reducible assumption) | refine UpdW.fin ?_ (by with_reducible assumption) | refine UpdF.fin ?_ (by with_reducible assumption) | refine Upd.setCell ?_ (fun h => absurd h (by first | exact Nat.lt_irrefl _ | (simp only []; omega))) _)); have c4 := Lib.hid (V4.out.block (fun h => h) b1.out); obtain ⟨pu40, pu41, pu42, pu43, pu44, pu45, pu46, pu47, pu48, pu49, pu4A, pu4B, pu4C⟩ := cell13w c4.out; have hm4 := blk_lt c4.out)
          | (go_at_call 36; (with_reducible refine (hX2.out _ (j4.out.to0 (by repeat first | with_reducible (first | exact Upd.refl _ _ | assumption | apply Upd.drew | apply Upd.alloc) | refine Upd0.tr ?_ (by with_reducible assumption) | refine Upd.setCell ?_ (fun h => absurd h (by first | exact Nat.lt_irrefl _ | (simp only []; omega))) _))).use ?_); rintro v u5 ⟨rfl, hv5, hd5⟩; have j5 := Lib.hid hd5; clear hd5; have V5 := Lib.hid (show Upd0 w1 u5 from (by repeat first | with_reducible (first | exact Upd.refl _ _ | assumption | apply Upd.drew | apply Upd.alloc) | refine Upd0.tr ?_ (by with_reducible assumption) | refine UpdW.fin ?_ (by with_reducible assumption) | refine UpdF.fin ?_ (by with_reducible assumption) | refine Upd.setCell ?_ (fun h => absurd h (by first | exact Nat.lt_irrefl _ | (simp only []; omega))) _)); have c5 := Lib.hid (V5.out.block (fun h => h) b1.out); obtain ⟨pu50, pu51, pu52, pu53, pu54, pu55, pu56, pu57, pu58, pu59, pu5A, pu5B, pu5C⟩ := cell13w c5.out; have hm5 := blk_lt c5.out)
          | (go_at_call 40; (with_reducible refine (hX3.out _ (j5.out.to0 (by repeat first | with_reducible (first | exact Upd.refl _ _ | assumption | apply Upd.drew | apply Upd.alloc) | refine Upd0.tr ?_ (by with_reducible assumption) | refine Upd.setCell ?_ (fun h => absurd h (by first | exact Nat.lt_irrefl _ | (simp only []; omega))) _))).use ?_); rintro v u6 ⟨rfl, hv6, hd6⟩; have j6 := Lib.hid hd6; clear hd6; have V6 := Lib.hid (show Upd0 w1 u6 from (by repeat first | with_reducible (first | exact Upd.refl _ _ | assumption | apply Upd.drew | apply Upd.alloc) | refine Upd0.tr ?_ (by with_reducible assumption) | refine UpdW.fin ?_ (by with_reducible assumption) | refine UpdF.fin ?_ (by with_reducible assumption) | refine Upd.setCell ?_ (fun h => absurd h (by first | exact Nat.lt_irrefl _ | (simp only []; omega))) _)); have c6 := Lib.hid (V6.out.block (fun h => h) b1.out); obtain ⟨pu60, pu61, pu62, pu63, pu64, pu65, pu66, pu67, pu68, pu69, pu6A, pu6B, pu6C⟩ := cell13w c6.out; have hm6 := blk_lt c6.out; obtain ⟨vb, vp, hI⟩ := j6.out; obtain ⟨bo, bc, rfl⟩ := hI.row.isSlice; obtain ⟨t0, t1, t2⟩ := two_w hI.blk; have hIh := Lib.hid hI; clear hI)
          | (with_reducible refine wp_serial (by kernel_rfl) (by kernel_rfl) (by repeat with_reducible (first | apply NoBad.then | apply NoBad.inBlock | apply NoBad.jump | exact NoBad.rets)) ?_) | fail)
        all_goals (try go_returns)
        all_goals exact ⟨by rw [hEC3.out, hES3.out]; rfl, (show Upd0 w w1 from (by repeat first | with_reducible (first | exact Upd.refl _ _ | assumption | apply Upd.drew | apply Upd.alloc) | refine Upd0.tr ?_ (by with_reducible assumption) | refine Upd.setCell ?_ (fun h => absurd h (by first | exact Nat.lt_irrefl _ | (simp only []; omega))) _)).tr V6.out⟩
end Go.Proofs.Ytgdejgfmhndbhaa
