/-
  Encode: the program's.
-/
import Derived.Test.YtgdejgfmhndbhaaWrS
import Derived.Test.YtgdejgfmhndbhaaKb
namespace Go.Proofs.Ytgdejgfmhndbhaa
open Go.RowKit Go.Maps
set_option linter.unusedSimpArgs false
set_option linter.unusedVariables false
variable {B : Nat}
theorem long_z (t : Nat) (s : Wr) (z : Int) (n : Nat) (hz : z = (n : Nat)) (w : World) (h : WrM B w t s) (hl : s.b.length ≤ 49000000) (hn : n < 4294967296) :
    Calls Try.prog 34 #[.pointer (some ⟨t, 0, none⟩), .int .i64 z] w (Rets fun r w' => r = .tuple #[] ∧ UpdW B w w' ∧ WrM B w' t (s.add (w4 n))) := hz ▸ long_wr t s n w h hl hn
theorem arr3_0 (a b c : Value) (w : World) : (Instr.index 63 (.agg #[a, b, c]) (.int .i64 0)).run Try.prog w = .ok a w := by kernel_rfl
theorem arr3_1 (a b c : Value) (w : World) : (Instr.index 63 (.agg #[a, b, c]) (.int .i64 1)).run Try.prog w = .ok b w := by kernel_rfl
theorem arr3_2 (a b c : Value) (w : World) : (Instr.index 63 (.agg #[a, b, c]) (.int .i64 2)).run Try.prog w = .ok c w := by kernel_rfl
attribute [local go_sem] arr4_0 arr4_1 arr4_2 arr4_3 arr3_0 arr3_1 arr3_2
def sk3 (S : Wr) (an ns ex : List Rc) : Nat → Wr
  | 0 => S
  | 1 => recsW an S
  | 2 => recsW ns (recsW an S)
  | _ => recsW ex (recsW ns (recsW an S))
theorem name_e (t : Nat) (s : Wr) (w : World) (h : WrM B w t s) (hl : s.b.length ≤ 40000000) :
    Calls Try.prog 33 #[.pointer (some ⟨t, 0, none⟩), .string ⟨#[]⟩] w (Rets fun r w' => r = .tuple #[] ∧ UpdW B w w' ∧ WrM B w' t (s.add [0])) := name_w [] (by decide +kernel) t s w h hl
theorem flag_z (b : Bool) (z : Int) (n : Nat) (hz : z = (n : Nat)) (w : World) : Calls Try.prog 32 #[.bool b, .int .i64 z] w (Rets fun r w' => r = .int .i64 ((b2n b n : Nat) : Int) ∧ Upd0 w w') := hz ▸ flag_w b n w
theorem flag_l (b : Bool) (w : World) : Calls Try.prog 32 #[.bool b, .int .i64 1] w (Rets fun r w' => r = .int .i64 (match b with | true => 1 | false => 0) ∧ Upd0 w w') := by
  cases b
  · exact flag_w false 1 w
  · exact flag_w true 1 w
def hds (l : List Nat) (i : Nat) : Bs := (l.take i).flatMap wd2
theorem add_add (s : Wr) (a b : Bs) : (s.add a).add b = s.add (a ++ b) := by simp [Wr.add]
set_option maxRecDepth 100000 in
set_option maxHeartbeats 32000000 in
theorem enc_z (i0 o0 c0 : Nat) (re au tr wa av : Bool) (qs : List Qn) (an ns ex : List Rc) (q a n x : Option Addr) (cq ca cn cx : Nat) (w : World) (h : MsR w ⟨(i0 : Nat), re, (o0 : Nat), au, tr, wa, av, (c0 : Nat), qs, an, ns, ex, 0⟩ q a n x) (hm : Mid ⟨(i0 : Nat), re, (o0 : Nat), au, tr, wa, av, (c0 : Nat), qs, an, ns, ex, 0⟩) (hB : msgB ⟨(i0 : Nat), re, (o0 : Nat), au, tr, wa, av, (c0 : Nat), qs, an, ns, ex, 0⟩ = true) :
    Calls Try.prog 18 #[Msg.val ⟨(i0 : Nat), re, (o0 : Nat), au, tr, wa, av, (c0 : Nat), qs, an, ns, ex, 0⟩ q a n x cq ca cn cx] w (Rets fun r w' => r = .tuple #[.string ⟨(encS ⟨(i0 : Nat), re, (o0 : Nat), au, tr, wa, av, (c0 : Nat), qs, an, ns, ex, 0⟩).toArray⟩, .int .i64 (encC ⟨(i0 : Nat), re, (o0 : Nat), au, tr, wa, av, (c0 : Nat), qs, an, ns, ex, 0⟩)] ∧ Upd0 w w') := by
  have hh := Lib.hid h
  have hc0 : msgC ⟨(i0 : Nat), re, (o0 : Nat), au, tr, wa, av, (c0 : Nat), qs, an, ns, ex, 0⟩ = 0 := by rw [msgC, hB]; rfl
  have hC := Lib.hid (show ∀ w', Upd0 w w' → Calls Try.prog 20 #[Msg.val ⟨(i0 : Nat), re, (o0 : Nat), au, tr, wa, av, (c0 : Nat), qs, an, ns, ex, 0⟩ q a n x cq ca cn cx] w' (Rets fun r w'' => r = .int .i64 0 ∧ Upd0 w' w'') from fun w' k => by
    have := check_w ⟨(i0 : Nat), re, (o0 : Nat), au, tr, wa, av, (c0 : Nat), qs, an, ns, ex, 0⟩ q a n x cq ca cn cx w' (hh.out.up k) hm
    rw [hc0] at this
    exact this)
  have hok := msg_ok hB
  have hEC : encC ⟨(i0 : Nat), re, (o0 : Nat), au, tr, wa, av, (c0 : Nat), qs, an, ns, ex, 0⟩ = if (encW ⟨(i0 : Nat), re, (o0 : Nat), au, tr, wa, av, (c0 : Nat), qs, an, ns, ex, 0⟩).b.length ≤ 65535 then 0 else 4 := by rw [encC, hB]; rfl
  have hES : encS ⟨(i0 : Nat), re, (o0 : Nat), au, tr, wa, av, (c0 : Nat), qs, an, ns, ex, 0⟩ = if encC ⟨(i0 : Nat), re, (o0 : Nat), au, tr, wa, av, (c0 : Nat), qs, an, ns, ex, 0⟩ = 0 then (encW ⟨(i0 : Nat), re, (o0 : Nat), au, tr, wa, av, (c0 : Nat), qs, an, ns, ex, 0⟩).b else [] := rfl
  have o15 : o0 ≤ 15 := by have := hok.op.2; simp only [] at this; omega
  have c15 : c0 ≤ 15 := by have := hok.rc.2; simp only [] at this; omega
  have i65 : i0 ≤ 65535 := by have := hok.id.2; simp only [] at this; omega
  obtain ⟨q10, hqo⟩ := hok.qs
  obtain ⟨a200, hao⟩ := hok.an
  obtain ⟨n200, hno⟩ := hok.ns
  obtain ⟨x200, hxo⟩ := hok.ex
  simp only [] at q10 hqo a200 hao n200 hno x200 hxo
  have hqoh := Lib.hid hqo
  have haoh := Lib.hid hao
  have hnoh := Lib.hid hno
  have hxoh := Lib.hid hxo
  have hfl := Lib.hid (flg_or re au tr wa av o0 c0 o15 c15)
  have hF : flg ⟨(i0 : Nat), re, (o0 : Nat), au, tr, wa, av, (c0 : Nat), qs, an, ns, ex, 0⟩ = b2n re 32768 + 2048 * o0 + b2n au 1024 + b2n tr 512 + b2n wa 256 + b2n av 128 + c0 := by simp [flg]
  have hFlt := flg_lt ⟨(i0 : Nat), re, (o0 : Nat), au, tr, wa, av, (c0 : Nat), qs, an, ns, ex, 0⟩ (by show (o0 : Int) ≤ 15; omega) (by show (c0 : Int) ≤ 15; omega)
  rw [hF] at hFlt
  have hFh := Lib.hid hF
  have hECh := Lib.hid hEC
  have hESh := Lib.hid hES
  have tkW : True := trivial
  have hmm := @run_makeMap Try.prog
  clear h hm hB hc0 hok hqo hao hno hxo hEC hES hF
  simp only [Msg.val] at hC ⊢
  go_enter Try.func18, Try.ntmps18
  go_wp2_with (first
    | (go_at_call 20; (with_reducible refine (hC.out _ (by repeat first | with_reducible (first | exact Upd.refl _ _ | assumption | apply Upd.drew | apply Upd.alloc) | refine Upd0.tr ?_ (by with_reducible assumption) | refine Upd.setCell ?_ (fun h => absurd h (by first | exact Nat.lt_irrefl _ | (simp only []; omega))) _)).use ?_); rintro v w1 ⟨rfl, hu1⟩; have bm1 := Lib.hid (show w1.heap[w.heap.size]? = some (.cells #[.int .i64 (i0 : Nat), .bool re, .int .i64 (o0 : Nat), .bool au, .bool tr, .bool wa, .bool av, .int .i64 (c0 : Nat), .slice q qs.length cq, .slice a an.length ca, .slice n ns.length cn, .slice x ex.length cx, .int .i64 0] 25 (0, 0)) from hu1.block (fun h => h) (by first | exact alloc_last _ _ _ rfl | exact blk_alloc (alloc_last _ _ _ rfl) | exact blk_alloc (blk_alloc (alloc_last _ _ _ rfl)))); obtain ⟨m10, m11, m12, m13, m14, m15, m16, m17, m18, m19, m110, m111, m112⟩ := cell13w bm1.out; have hlm1 := blk_lt bm1.out; have nem1 : ¬ w.heap.size = w1.heap.size := (by omega); have nfm1 : ¬ w1.heap.size = w.heap.size := (by omega))
    | (go_at_call 31; have _t := tkW; (with_reducible refine (word_z (B := w.heap.size) (w1.heap.size + 1) ⟨[], []⟩ _ i0 rfl _ ((wrm_new w1 (by omega)).to0 (by repeat first | with_reducible (first | exact Upd.refl _ _ | assumption | apply Upd.drew | apply Upd.alloc) | refine Upd0.tr ?_ (by with_reducible assumption) | refine Upd.setCell ?_ (fun h => absurd h (by first | exact Nat.lt_irrefl _ | (simp only []; omega))) _)) (by simp) (by omega)).use ?_); rintro v w2 ⟨rfl, hu2, hc2⟩; have k2 := Lib.hid hc2; clear hc2 tkW _t; have bm2 := Lib.hid (show w2.heap[w.heap.size]? = some (.cells #[.int .i64 (i0 : Nat), .bool re, .int .i64 (o0 : Nat), .bool au, .bool tr, .bool wa, .bool av, .int .i64 (c0 : Nat), .slice q qs.length cq, .slice a an.length ca, .slice n ns.length cn, .slice x ex.length cx, .int .i64 0] 25 (0, 0)) from hu2.other (by first | exact bm1.out | exact blk_alloc bm1.out | exact blk_alloc (blk_alloc bm1.out) | exact blk_alloc (blk_alloc (blk_alloc bm1.out))) rfl); obtain ⟨m20, m21, m22, m23, m24, m25, m26, m27, m28, m29, m210, m211, m212⟩ := cell13w bm2.out; have hlm2 := blk_lt bm2.out; have nem2 : ¬ w.heap.size = w2.heap.size := (by omega); have nfm2 : ¬ w2.heap.size = w.heap.size := (by omega))
    | ((with_reducible refine S8.wp_serial3_5 158 [] [0, 1, 2, 4, 5, 6, 8, 9, 12, 13, 16, 17, 20, 21, 24, 25] 3 [7] 10 [11] 14 [15] 18 [19] 22 [23, 26, 27] [_, _, _, _, _, _, _, _, _, _, _, _, _, _, _, _] _ [_] _ [_] _ [_] _ [_] _ [_, _, _] (by kernel_rfl) (by decide +kernel) rfl rfl rfl rfl rfl rfl rfl rfl rfl rfl rfl (by refine ⟨by first | decide | simp, fun s hs => absurd hs List.not_mem_nil⟩) (by repeat with_reducible (first | apply NoBad.then | apply NoBad.inBlock | apply NoBad.jump | exact NoBad.rets)) ?_))
    | (go_at_call 32; (with_reducible refine (flag_z re 32768 32768 rfl _).use ?_); rintro v f1 ⟨rfl, huf1⟩)
    | (go_at_call 32; (with_reducible refine (flag_z au 1024 1024 rfl _).use ?_); rintro v f2 ⟨rfl, huf2⟩)
    | (go_at_call 32; (with_reducible refine (flag_z tr 512 512 rfl _).use ?_); rintro v f3 ⟨rfl, huf3⟩)
    | (go_at_call 32; (with_reducible refine (flag_z wa 256 256 rfl _).use ?_); rintro v f4 ⟨rfl, huf4⟩)
    | (go_at_call 32; (with_reducible refine (flag_z av 128 128 rfl _).use ?_); rintro v f5 ⟨rfl, huf5⟩)
    | (refine And.intro (And.intro huf5.ext rfl) ?_)
    | (refine And.intro (And.intro huf4.ext rfl) ?_)
    | (refine And.intro (And.intro huf3.ext rfl) ?_)
    | (refine And.intro (And.intro huf2.ext rfl) ?_)
    | (refine And.intro (And.intro huf1.ext rfl) ?_)
    | (go_at_call 31; (with_reducible refine (word_z (w1.heap.size + 1) ((⟨[], []⟩ : Wr).add (wd2 i0)) _ _ hfl.out _ (k2.out.to0 (by repeat first | with_reducible (first | exact Upd.refl _ _ | assumption | apply Upd.drew | apply Upd.alloc) | refine Upd0.tr ?_ (by with_reducible assumption) | refine Upd.setCell ?_ (fun h => absurd h (by first | exact Nat.lt_irrefl _ | (simp only []; omega))) _)) (by simp [Wr.add, wd2]) (by omega)).use ?_); rintro v w3 ⟨rfl, hu3, hc3⟩; rw [← hFh.out] at hc3; have k3 := Lib.hid hc3; clear hc3; have bmf := Lib.hid ((show Upd0 w2 f5 from (by repeat first | with_reducible (first | exact Upd.refl _ _ | assumption | apply Upd.drew | apply Upd.alloc) | refine Upd0.tr ?_ (by with_reducible assumption) | refine Upd.setCell ?_ (fun h => absurd h (by first | exact Nat.lt_irrefl _ | (simp only []; omega))) _)).block (fun h => h) bm2.out); have bm3 := Lib.hid (show w3.heap[w.heap.size]? = some (.cells #[.int .i64 (i0 : Nat), .bool re, .int .i64 (o0 : Nat), .bool au, .bool tr, .bool wa, .bool av, .int .i64 (c0 : Nat), .slice q qs.length cq, .slice a an.length ca, .slice n ns.length cn, .slice x ex.length cx, .int .i64 0] 25 (0, 0)) from hu3.other bmf.out rfl); obtain ⟨m30, m31, m32, m33, m34, m35, m36, m37, m38, m39, m310, m311, m312⟩ := cell13w bm3.out; have hlm3 := blk_lt bm3.out; have nem3 : ¬ w.heap.size = w3.heap.size := (by omega); have nfm3 : ¬ w3.heap.size = w.heap.size := (by omega))
    | ((with_reducible refine S8.wp_serial3_1 158 [] [12, 13, 14, 0, 1, 2, 3, 4, 5, 6, 7, 8, 9, 10, 11] 15 [16, 17, 18] [_, _, _, _, _, _, _, _, _, _, _, _, _, _, _] _ [_, _, _] (by kernel_rfl) (by decide +kernel) rfl rfl rfl (by refine ⟨by first | decide | simp, fun s hs => absurd hs List.not_mem_nil⟩) (by repeat with_reducible (first | apply NoBad.then | apply NoBad.inBlock | apply NoBad.jump | exact NoBad.rets)) ?_))
    | (go_at_call 32; (with_reducible refine (flag_l false _).use ?_); rintro v f6 ⟨rfl, huf6⟩; have hvf := Lib.hid (show Upd0 w f6 from (by repeat first | with_reducible (first | exact Upd.refl _ _ | assumption | apply Upd.drew | apply Upd.alloc) | refine Upd0.tr ?_ (by with_reducible assumption) | refine UpdW.fin ?_ (by with_reducible assumption) | refine UpdF.fin ?_ (by with_reducible assumption) | refine Upd.setCell ?_ (fun h => absurd h (by first | exact Nat.lt_irrefl _ | (simp only []; omega))) _)); have bm6 := Lib.hid ((show Upd0 w3 f6 from (by repeat first | with_reducible (first | exact Upd.refl _ _ | assumption | apply Upd.drew | apply Upd.alloc) | refine Upd0.tr ?_ (by with_reducible assumption) | refine Upd.setCell ?_ (fun h => absurd h (by first | exact Nat.lt_irrefl _ | (simp only []; omega))) _)).block (fun h => h) bm3.out))
    | (refine And.intro (And.intro huf6.ext rfl) ?_)
    | (with_reducible refine wp_serial (by kernel_rfl) (by kernel_rfl) (by repeat with_reducible (first | apply NoBad.then | apply NoBad.inBlock | apply NoBad.jump | exact NoBad.rets)) ?_) | fail)
  have hS1 : ((((⟨[], []⟩ : Wr).add (wd2 i0)).add (wd2 (flg ⟨(i0 : Nat), re, (o0 : Nat), au, tr, wa, av, (c0 : Nat), qs, an, ns, ex, 0⟩))).add (hds [qs.length, an.length, ns.length, ex.length] 4)) = (⟨headW ⟨(i0 : Nat), re, (o0 : Nat), au, tr, wa, av, (c0 : Nat), qs, an, ns, ex, 0⟩, []⟩ : Wr) := by
    simp [hds, Wr.add, headW, b2n]
  have hS1h := Lib.hid hS1
  have hhl : (headW ⟨(i0 : Nat), re, (o0 : Nat), au, tr, wa, av, (c0 : Nat), qs, an, ns, ex, 0⟩).length = 12 := by simp [headW, wd2]
  clear hS1
  go_loopw [7, 72] (fun _ jj wr => ∃ i : Nat, i ≤ 4 ∧ jj = .int .i64 i ∧ Upd0 w wr ∧ Hid (wr.heap[w.heap.size]? = some (.cells #[.int .i64 (i0 : Nat), .bool re, .int .i64 (o0 : Nat), .bool au, .bool tr, .bool wa, .bool av, .int .i64 (c0 : Nat), .slice q qs.length cq, .slice a an.length ca, .slice n ns.length cn, .slice x ex.length cx, .int .i64 0] 25 (0, 0))) ∧ Hid (WrM w.heap.size wr (w1.heap.size + 1) ((((⟨[], []⟩ : Wr).add (wd2 i0)).add (wd2 (flg ⟨(i0 : Nat), re, (o0 : Nat), au, tr, wa, av, (c0 : Nat), qs, an, ns, ex, 0⟩))).add (hds [qs.length, an.length, ns.length, ex.length] i)))) (fun _ jj _ => 4 - (intOf jj).toNat)
  case atStart => exact ⟨0, Nat.zero_le _, rfl, hvf.out, Lib.hid bm6.out, Lib.hid (by have := k3.out.to0 (show Upd0 w3 f6 from (by repeat first | with_reducible (first | exact Upd.refl _ _ | assumption | apply Upd.drew | apply Upd.alloc) | refine Upd0.tr ?_ (by with_reducible assumption) | refine Upd.setCell ?_ (fun h => absurd h (by first | exact Nat.lt_irrefl _ | (simp only []; omega))) _)); simpa [hds, Wr.add] using this)⟩
  case round =>
    obtain ⟨i, hi, rfl, hu, hbm, hM⟩ := hrel
    by_cases hi4 : i < 4
    · rcases (show i = 0 ∨ i = 1 ∨ i = 2 ∨ i = 3 by omega) with rfl | rfl | rfl | rfl
      · go_wp2_with (first
          | (go_at_call 31; (with_reducible refine (word_z (w1.heap.size + 1) _ _ (qs.length) (by first | rfl | omega | simp) _ (hM.out.to0 (by repeat first | with_reducible (first | exact Upd.refl _ _ | assumption | apply Upd.drew | apply Upd.alloc) | refine Upd0.tr ?_ (by with_reducible assumption) | refine Upd.setCell ?_ (fun h => absurd h (by first | exact Nat.lt_irrefl _ | (simp only []; omega))) _)) (by simp [Wr.add, hds, wd2]) (by omega)).use ?_); rintro v w4 ⟨rfl, hu4, hc4⟩; have k4 := Lib.hid hc4; clear hc4)
          | (with_reducible refine wp_serial (by kernel_rfl) (by kernel_rfl) (by repeat with_reducible (first | apply NoBad.then | apply NoBad.inBlock | apply NoBad.jump | exact NoBad.rets)) ?_) | fail)
        go_roundw
        case rel => exact ⟨1, by omega, by go_num, (by repeat first | with_reducible (first | exact Upd.refl _ _ | assumption | apply Upd.drew | apply Upd.alloc) | refine Upd0.tr ?_ (by with_reducible assumption) | refine UpdW.fin ?_ (by with_reducible assumption) | refine UpdF.fin ?_ (by with_reducible assumption) | refine Upd.setCell ?_ (fun h => absurd h (by first | exact Nat.lt_irrefl _ | (simp only []; omega))) _), Lib.hid (hu4.other (by first | exact hbm.out | exact blk_alloc hbm.out) rfl), Lib.hid (by have := k4.out; simpa [hds, Wr.add] using this)⟩
        case measure => simp [intOf]
      · go_wp2_with (first
          | (go_at_call 31; (with_reducible refine (word_z (w1.heap.size + 1) _ _ (an.length) (by first | rfl | omega | simp) _ (hM.out.to0 (by repeat first | with_reducible (first | exact Upd.refl _ _ | assumption | apply Upd.drew | apply Upd.alloc) | refine Upd0.tr ?_ (by with_reducible assumption) | refine Upd.setCell ?_ (fun h => absurd h (by first | exact Nat.lt_irrefl _ | (simp only []; omega))) _)) (by simp [Wr.add, hds, wd2]) (by omega)).use ?_); rintro v w4 ⟨rfl, hu4, hc4⟩; have k4 := Lib.hid hc4; clear hc4)
          | (with_reducible refine wp_serial (by kernel_rfl) (by kernel_rfl) (by repeat with_reducible (first | apply NoBad.then | apply NoBad.inBlock | apply NoBad.jump | exact NoBad.rets)) ?_) | fail)
        go_roundw
        case rel => exact ⟨2, by omega, by go_num, (by repeat first | with_reducible (first | exact Upd.refl _ _ | assumption | apply Upd.drew | apply Upd.alloc) | refine Upd0.tr ?_ (by with_reducible assumption) | refine UpdW.fin ?_ (by with_reducible assumption) | refine UpdF.fin ?_ (by with_reducible assumption) | refine Upd.setCell ?_ (fun h => absurd h (by first | exact Nat.lt_irrefl _ | (simp only []; omega))) _), Lib.hid (hu4.other (by first | exact hbm.out | exact blk_alloc hbm.out) rfl), Lib.hid (by have := k4.out; simpa [hds, Wr.add] using this)⟩
        case measure => simp [intOf]
      · go_wp2_with (first
          | (go_at_call 31; (with_reducible refine (word_z (w1.heap.size + 1) _ _ (ns.length) (by first | rfl | omega | simp) _ (hM.out.to0 (by repeat first | with_reducible (first | exact Upd.refl _ _ | assumption | apply Upd.drew | apply Upd.alloc) | refine Upd0.tr ?_ (by with_reducible assumption) | refine Upd.setCell ?_ (fun h => absurd h (by first | exact Nat.lt_irrefl _ | (simp only []; omega))) _)) (by simp [Wr.add, hds, wd2]) (by omega)).use ?_); rintro v w4 ⟨rfl, hu4, hc4⟩; have k4 := Lib.hid hc4; clear hc4)
          | (with_reducible refine wp_serial (by kernel_rfl) (by kernel_rfl) (by repeat with_reducible (first | apply NoBad.then | apply NoBad.inBlock | apply NoBad.jump | exact NoBad.rets)) ?_) | fail)
        go_roundw
        case rel => exact ⟨3, by omega, by go_num, (by repeat first | with_reducible (first | exact Upd.refl _ _ | assumption | apply Upd.drew | apply Upd.alloc) | refine Upd0.tr ?_ (by with_reducible assumption) | refine UpdW.fin ?_ (by with_reducible assumption) | refine UpdF.fin ?_ (by with_reducible assumption) | refine Upd.setCell ?_ (fun h => absurd h (by first | exact Nat.lt_irrefl _ | (simp only []; omega))) _), Lib.hid (hu4.other (by first | exact hbm.out | exact blk_alloc hbm.out) rfl), Lib.hid (by have := k4.out; simpa [hds, Wr.add] using this)⟩
        case measure => simp [intOf]
      · go_wp2_with (first
          | (go_at_call 31; (with_reducible refine (word_z (w1.heap.size + 1) _ _ (ex.length) (by first | rfl | omega | simp) _ (hM.out.to0 (by repeat first | with_reducible (first | exact Upd.refl _ _ | assumption | apply Upd.drew | apply Upd.alloc) | refine Upd0.tr ?_ (by with_reducible assumption) | refine Upd.setCell ?_ (fun h => absurd h (by first | exact Nat.lt_irrefl _ | (simp only []; omega))) _)) (by simp [Wr.add, hds, wd2]) (by omega)).use ?_); rintro v w4 ⟨rfl, hu4, hc4⟩; have k4 := Lib.hid hc4; clear hc4)
          | (with_reducible refine wp_serial (by kernel_rfl) (by kernel_rfl) (by repeat with_reducible (first | apply NoBad.then | apply NoBad.inBlock | apply NoBad.jump | exact NoBad.rets)) ?_) | fail)
        go_roundw
        case rel => exact ⟨4, by omega, by go_num, (by repeat first | with_reducible (first | exact Upd.refl _ _ | assumption | apply Upd.drew | apply Upd.alloc) | refine Upd0.tr ?_ (by with_reducible assumption) | refine UpdW.fin ?_ (by with_reducible assumption) | refine UpdF.fin ?_ (by with_reducible assumption) | refine Upd.setCell ?_ (fun h => absurd h (by first | exact Nat.lt_irrefl _ | (simp only []; omega))) _), Lib.hid (hu4.other (by first | exact hbm.out | exact blk_alloc hbm.out) rfl), Lib.hid (by have := k4.out; simpa [hds, Wr.add] using this)⟩
        case measure => simp [intOf]
    · obtain rfl : i = 4 := by omega
      have e4 : ((4 : Nat) : Int) = 4 := rfl
      rw [e4]
      rw [hS1h.out] at hM
      obtain ⟨m0, m1, m2, m3, m4, m5, m6, m7, m8, m9, mA, mB, mC⟩ := cell13w hbm.out
      have hmlt := blk_lt hbm.out
      go_wp2_with (first | (with_reducible refine wp_serial (by kernel_rfl) (by kernel_rfl) (by repeat with_reducible (first | apply NoBad.then | apply NoBad.inBlock | apply NoBad.jump | exact NoBad.rets)) ?_) | fail)
      go_loopw [9, 82] (fun _ jj wr => ∃ i : Nat, i ≤ qs.length ∧ jj = .int .i64 i ∧ Upd0 w wr ∧ Hid (wr.heap[w.heap.size]? = some (.cells #[.int .i64 (i0 : Nat), .bool re, .int .i64 (o0 : Nat), .bool au, .bool tr, .bool wa, .bool av, .int .i64 (c0 : Nat), .slice q qs.length cq, .slice a an.length ca, .slice n ns.length cn, .slice x ex.length cx, .int .i64 0] 25 (0, 0))) ∧ Hid (WrM w.heap.size wr (w1.heap.size + 1) (qusW (qs.take i) ⟨headW ⟨(i0 : Nat), re, (o0 : Nat), au, tr, wa, av, (c0 : Nat), qs, an, ns, ex, 0⟩, []⟩))) (fun _ jj _ => qs.length - (intOf jj).toNat)
      case atStart => exact ⟨0, Nat.zero_le _, rfl, (by repeat first | with_reducible (first | exact Upd.refl _ _ | assumption | apply Upd.drew | apply Upd.alloc) | refine Upd0.tr ?_ (by with_reducible assumption) | refine UpdW.fin ?_ (by with_reducible assumption) | refine UpdF.fin ?_ (by with_reducible assumption) | refine Upd.setCell ?_ (fun h => absurd h (by first | exact Nat.lt_irrefl _ | (simp only []; omega))) _), Lib.hid hbm.out, Lib.hid (by simpa [qusW] using hM.out)⟩
      case round =>
        clear m0 m1 m2 m3 m4 m5 m6 m7 m8 m9 mA mB mC
        obtain ⟨i, hi, rfl, hu2, hbm2, hM2⟩ := hrel
        obtain ⟨m0, m1, m2, m3, m4, m5, m6, m7, m8, m9, mA, mB, mC⟩ := cell13w hbm2.out
        have hmlt := blk_lt hbm2.out
        by_cases hlt : i < qs.length
        · obtain ⟨y, hx⟩ : ∃ x, qs[i]? = some x := ⟨qs[i], List.getElem?_eq_getElem hlt⟩
          obtain ⟨g, o, rfl, hg, e0, e1⟩ := hh.out.qs.some hx
          have hgw : g < wr.heap.size := Nat.lt_of_lt_of_le hg hu2.size
          have d0 := hu2.cell (fun h => h) e0
          have d1 := hu2.cell (fun h => h) e1
          have hlb : (qusW (qs.take i) ⟨headW ⟨(i0 : Nat), re, (o0 : Nat), au, tr, wa, av, (c0 : Nat), qs, an, ns, ex, 0⟩, []⟩).b.length ≤ 5000 := by
            have h1 := qus_le (⟨headW ⟨(i0 : Nat), re, (o0 : Nat), au, tr, wa, av, (c0 : Nat), qs, an, ns, ex, 0⟩, []⟩ : Wr) (all_tk hqoh.out i)
            simp only [hhl, List.length_take] at h1
            omega
          have hyo := all_at hqoh.out hx
          simp only [Qn.ok, Bool.and_eq_true, decide_eq_true_eq] at hyo
          obtain ⟨y1, y2, y3, _⟩ := hyo
          have hsn := Lib.hid (qus_snoc hx ⟨headW ⟨(i0 : Nat), re, (o0 : Nat), au, tr, wa, av, (c0 : Nat), qs, an, ns, ex, 0⟩, []⟩)
          obtain ⟨S, hS⟩ : ∃ S, qusW (qs.take i) ⟨headW ⟨(i0 : Nat), re, (o0 : Nat), au, tr, wa, av, (c0 : Nat), qs, an, ns, ex, 0⟩, []⟩ = S := ⟨_, rfl⟩
          rw [hS] at hlb hM2 hsn
          obtain ⟨nm, ty⟩ := y
          simp only [] at d0 d1 y1 y2 y3
          have hnb := nameW_len S y1
          have hn254 := (cut_lab y1).1
          have y1h := Lib.hid y1
          have hty := Lib.hid (show ty = (ty.toNat : Int) by omega)
          clear hx e0 e1 hS y1
          go_wp2_with (first
            | (go_at_call 33; (with_reducible refine (name_w nm y1h.out (w1.heap.size + 1) S _ (hM2.out.to0 (by repeat first | with_reducible (first | exact Upd.refl _ _ | assumption | apply Upd.drew | apply Upd.alloc) | refine Upd0.tr ?_ (by with_reducible assumption) | refine Upd.setCell ?_ (fun h => absurd h (by first | exact Nat.lt_irrefl _ | (simp only []; omega))) _)) (by omega)).use ?_); rintro v w5 ⟨rfl, hu5, hc5⟩; have k5 := Lib.hid hc5; clear hc5; have b5 := Lib.hid (hu5.other (by first | exact hbm2.out | exact blk_alloc hbm2.out) rfl); have bq5 := Lib.hid (show w5.heap[wr.heap.size]? = some (.cells #[.string ⟨nm.toArray⟩, .int .i64 ty] 41 (0, 0)) from hu5.other (by first | exact alloc_last _ _ _ rfl | exact blk_alloc (alloc_last _ _ _ rfl) | exact blk_alloc (blk_alloc (alloc_last _ _ _ rfl))) rfl); obtain ⟨q50, q51⟩ := cell2w bq5.out; have hlq5 := blk_lt bq5.out; have neq5 : ¬ wr.heap.size = w5.heap.size := (by omega); have nfq5 : ¬ w5.heap.size = wr.heap.size := (by omega))
            | (go_at_call 31; (with_reducible refine (word_z (w1.heap.size + 1) (nameW nm S) _ ty.toNat hty.out _ k5.out (by omega) (by omega)).use ?_); rintro v w6 ⟨rfl, hu6, hc6⟩; have k6 := Lib.hid hc6; clear hc6; have b6 := Lib.hid (hu6.other b5.out rfl))
            | (go_at_call 31; (with_reducible refine (word_z (w1.heap.size + 1) ((nameW nm S).add (wd2 ty.toNat)) 1 1 rfl _ k6.out (by simp [Wr.add, wd2]; omega) (by omega)).use ?_); rintro v w7 ⟨rfl, hu7, hc7⟩; have k7 := Lib.hid hc7; clear hc7; have b7 := Lib.hid (hu7.other b6.out rfl))
            | (with_reducible refine wp_serial (by kernel_rfl) (by kernel_rfl) (by repeat with_reducible (first | apply NoBad.then | apply NoBad.inBlock | apply NoBad.jump | exact NoBad.rets)) ?_) | fail)
          go_roundw
          case rel => exact ⟨i + 1, by omega, by go_num, (by repeat first | with_reducible (first | exact Upd.refl _ _ | assumption | apply Upd.drew | apply Upd.alloc) | refine Upd0.tr ?_ (by with_reducible assumption) | refine UpdW.fin ?_ (by with_reducible assumption) | refine UpdF.fin ?_ (by with_reducible assumption) | refine Upd.setCell ?_ (fun h => absurd h (by first | exact Nat.lt_irrefl _ | (simp only []; omega))) _), b7, Lib.hid (by rw [hsn.out]; exact k7.out)⟩
          case measure => simp [intOf]; omega
        · obtain rfl : i = qs.length := by omega
          have hlb : (qusW qs ⟨headW ⟨(i0 : Nat), re, (o0 : Nat), au, tr, wa, av, (c0 : Nat), qs, an, ns, ex, 0⟩, []⟩).b.length ≤ 5000 := by
            have h1 := qus_le (⟨headW ⟨(i0 : Nat), re, (o0 : Nat), au, tr, wa, av, (c0 : Nat), qs, an, ns, ex, 0⟩, []⟩ : Wr) hqoh.out
            simp only [hhl] at h1
            omega
          rw [List.take_length] at hM2
          have hEW : encW ⟨(i0 : Nat), re, (o0 : Nat), au, tr, wa, av, (c0 : Nat), qs, an, ns, ex, 0⟩ = optW ⟨(i0 : Nat), re, (o0 : Nat), au, tr, wa, av, (c0 : Nat), qs, an, ns, ex, 0⟩ (recsW ex (recsW ns (recsW an (qusW qs ⟨headW ⟨(i0 : Nat), re, (o0 : Nat), au, tr, wa, av, (c0 : Nat), qs, an, ns, ex, 0⟩, []⟩)))) := rfl
          obtain ⟨S, hS⟩ : ∃ S, qusW qs ⟨headW ⟨(i0 : Nat), re, (o0 : Nat), au, tr, wa, av, (c0 : Nat), qs, an, ns, ex, 0⟩, []⟩ = S := ⟨_, rfl⟩
          rw [hS] at hlb hM2 hEW
          have hEWh := Lib.hid hEW
          clear hS hEW
          go_wp2_with (first | (with_reducible refine wp_serial (by kernel_rfl) (by kernel_rfl) (by repeat with_reducible (first | apply NoBad.then | apply NoBad.inBlock | apply NoBad.jump | exact NoBad.rets)) ?_) | fail)
          go_loopw [11, 104] (fun _ jj wr => ∃ k : Nat, k ≤ 3 ∧ jj = .int .i64 k ∧ Upd0 w wr ∧ Hid (wr.heap[w.heap.size]? = some (.cells #[.int .i64 (i0 : Nat), .bool re, .int .i64 (o0 : Nat), .bool au, .bool tr, .bool wa, .bool av, .int .i64 (c0 : Nat), .slice q qs.length cq, .slice a an.length ca, .slice n ns.length cn, .slice x ex.length cx, .int .i64 0] 25 (0, 0))) ∧ Hid (WrM w.heap.size wr (w1.heap.size + 1) (sk3 S an ns ex k))) (fun _ jj _ => 3 - (intOf jj).toNat)
          case atStart => exact ⟨0, Nat.zero_le _, rfl, (by repeat first | with_reducible (first | exact Upd.refl _ _ | assumption | apply Upd.drew | apply Upd.alloc) | refine Upd0.tr ?_ (by with_reducible assumption) | refine UpdW.fin ?_ (by with_reducible assumption) | refine UpdF.fin ?_ (by with_reducible assumption) | refine Upd.setCell ?_ (fun h => absurd h (by first | exact Nat.lt_irrefl _ | (simp only []; omega))) _), Lib.hid hbm2.out, Lib.hid hM2.out⟩
          case round =>
            clear m0 m1 m2 m3 m4 m5 m6 m7 m8 m9 mA mB mC
            obtain ⟨k, hk, rfl, hu3, hbm3, hM3⟩ := hrel
            by_cases hk3 : k < 3
            · rcases (show k = 0 ∨ k = 1 ∨ k = 2 by omega) with rfl | rfl | rfl
              · have hM4 := Lib.hid (show WrM w.heap.size wr (w1.heap.size + 1) S from hM3.out)
                have hp0 : S.b.length ≤ 5000 := by
                  exact hlb
                obtain ⟨S', hS'⟩ : ∃ S', S = S' := ⟨_, rfl⟩
                have hsk := Lib.hid (show sk3 S an ns ex 1 = recsW an S' by rw [← hS']; rfl)
                rw [hS'] at hM4 hp0
                have eK : ((0 : Nat) : Int) = 0 := rfl
                rw [eK]
                clear hS' hM3
                go_wp2_with (first | (with_reducible refine wp_serial (by kernel_rfl) (by kernel_rfl) (by repeat with_reducible (first | apply NoBad.then | apply NoBad.inBlock | apply NoBad.jump | exact NoBad.rets)) ?_) | fail)
                go_loopw [13, 109] (fun _ jj wr => ∃ i : Nat, i ≤ an.length ∧ jj = .int .i64 i ∧ Upd0 w wr ∧ Hid (wr.heap[w.heap.size]? = some (.cells #[.int .i64 (i0 : Nat), .bool re, .int .i64 (o0 : Nat), .bool au, .bool tr, .bool wa, .bool av, .int .i64 (c0 : Nat), .slice q qs.length cq, .slice a an.length ca, .slice n ns.length cn, .slice x ex.length cx, .int .i64 0] 25 (0, 0))) ∧ Hid (WrM w.heap.size wr (w1.heap.size + 1) (recsW (an.take i) S'))) (fun _ jj _ => an.length - (intOf jj).toNat)
                case atStart => exact ⟨0, Nat.zero_le _, rfl, hu3, Lib.hid hbm3.out, Lib.hid (by simpa [recsW] using hM4.out)⟩
                case round =>
                  obtain ⟨i, hi, rfl, hu4, hbm4, hM5⟩ := hrel
                  have hmlt := blk_lt hbm4.out
                  by_cases hlt : i < an.length
                  · obtain ⟨y, hx⟩ : ∃ x, an[i]? = some x := ⟨an[i], List.getElem?_eq_getElem hlt⟩
                    obtain ⟨g, o, rfl, hg, e0, e1, e2, e3⟩ := hh.out.an.some hx
                    have hgw : g < wr.heap.size := Nat.lt_of_lt_of_le hg hu4.size
                    have d0 := hu4.cell (fun h => h) e0
                    have d1 := hu4.cell (fun h => h) e1
                    have d2 := hu4.cell (fun h => h) e2
                    have d3 := hu4.cell (fun h => h) e3
                    have hlb2 : (recsW (an.take i) S').b.length ≤ 3100000 := by
                      have h1 := recs_le S' (all_tk haoh.out i)
                      simp only [List.length_take] at h1
                      omega
                    have hyo := Rc.good (all_at haoh.out hx)
                    have hsn := Lib.hid (recs_snoc hx S')
                    obtain ⟨S2, hS2⟩ : ∃ S2, recsW (an.take i) S' = S2 := ⟨_, rfl⟩
                    rw [hS2] at hlb2 hM5 hsn
                    obtain ⟨nm, ty, tl, d⟩ := y
                    have hnb := nameW_len S2 hyo.nm
                    have hn254 := (cut_lab hyo.nm).1
                    have hty := Lib.hid (show ty = (ty.toNat : Int) by have := hyo.ty.1; simp only [] at this; omega)
                    have hty2 : ty.toNat ≤ 65535 := by have := hyo.ty.2; simp only [] at this; omega
                    have htl := Lib.hid (show tl = (tl.toNat : Int) by have := hyo.tl.1; simp only [] at this; omega)
                    have htl2 : tl.toNat ≤ 2147483647 := by have := hyo.tl.2; simp only [] at this; omega
                    have hyoh := Lib.hid hyo
                    simp only [] at d0 d1 d2 d3 hnb hn254
                    clear hx e0 e1 e2 e3 hS2 hyo
                    go_wp2_with (first
                      | (go_at_call 33; (with_reducible refine (name_w nm hyoh.out.nm (w1.heap.size + 1) S2 _ (hM5.out.to0 (by repeat first | with_reducible (first | exact Upd.refl _ _ | assumption | apply Upd.drew | apply Upd.alloc) | refine Upd0.tr ?_ (by with_reducible assumption) | refine Upd.setCell ?_ (fun h => absurd h (by first | exact Nat.lt_irrefl _ | (simp only []; omega))) _)) (by omega)).use ?_); rintro v w5 ⟨rfl, hu5, hc5⟩; have k5 := Lib.hid hc5; clear hc5; have b5 := Lib.hid (hu5.other (by first | exact hbm4.out | exact blk_alloc hbm4.out) rfl); have br5 := Lib.hid (show w5.heap[wr.heap.size]? = some (.cells #[.string ⟨nm.toArray⟩, .int .i64 ty, .int .i64 tl, .string ⟨d.toArray⟩] 46 (0, 0)) from hu5.other (by first | exact alloc_last _ _ _ rfl | exact blk_alloc (alloc_last _ _ _ rfl) | exact blk_alloc (blk_alloc (alloc_last _ _ _ rfl))) rfl); obtain ⟨r50, r51, r52, r53⟩ := cell4w br5.out; have hlr5 := blk_lt br5.out; have ner5 : ¬ wr.heap.size = w5.heap.size := (by omega); have nfr5 : ¬ w5.heap.size = wr.heap.size := (by omega))
                      | (go_at_call 31; (with_reducible refine (word_z (w1.heap.size + 1) (nameW nm S2) _ ty.toNat hty.out _ k5.out (by omega) (by omega)).use ?_); rintro v w6 ⟨rfl, hu6, hc6⟩; have k6 := Lib.hid hc6; clear hc6; have b6 := Lib.hid (hu6.other b5.out rfl); have br6 := Lib.hid (show w6.heap[wr.heap.size]? = some (.cells #[.string ⟨nm.toArray⟩, .int .i64 ty, .int .i64 tl, .string ⟨d.toArray⟩] 46 (0, 0)) from hu6.other (by first | exact br5.out | exact blk_alloc br5.out | exact blk_alloc (blk_alloc br5.out) | exact blk_alloc (blk_alloc (blk_alloc br5.out))) rfl); obtain ⟨r60, r61, r62, r63⟩ := cell4w br6.out; have hlr6 := blk_lt br6.out; have ner6 : ¬ wr.heap.size = w6.heap.size := (by omega); have nfr6 : ¬ w6.heap.size = wr.heap.size := (by omega))
                      | (go_at_call 31; (with_reducible refine (word_z (w1.heap.size + 1) ((nameW nm S2).add (wd2 ty.toNat)) 1 1 rfl _ k6.out (by simp [Wr.add, wd2]; omega) (by omega)).use ?_); rintro v w7 ⟨rfl, hu7, hc7⟩; have k7 := Lib.hid hc7; clear hc7; have b7 := Lib.hid (hu7.other b6.out rfl); have br7 := Lib.hid (show w7.heap[wr.heap.size]? = some (.cells #[.string ⟨nm.toArray⟩, .int .i64 ty, .int .i64 tl, .string ⟨d.toArray⟩] 46 (0, 0)) from hu7.other (by first | exact br6.out | exact blk_alloc br6.out | exact blk_alloc (blk_alloc br6.out) | exact blk_alloc (blk_alloc (blk_alloc br6.out))) rfl); obtain ⟨r70, r71, r72, r73⟩ := cell4w br7.out; have hlr7 := blk_lt br7.out; have ner7 : ¬ wr.heap.size = w7.heap.size := (by omega); have nfr7 : ¬ w7.heap.size = wr.heap.size := (by omega))
                      | (go_at_call 34; (with_reducible refine (long_z (w1.heap.size + 1) (((nameW nm S2).add (wd2 ty.toNat)).add (wd2 1)) _ tl.toNat htl.out _ k7.out (by simp [Wr.add, wd2]; omega) (by omega)).use ?_); rintro v w8 ⟨rfl, hu8, hc8⟩; have k8 := Lib.hid hc8; clear hc8; have b8 := Lib.hid (hu8.other b7.out rfl); have br8 := Lib.hid (show w8.heap[wr.heap.size]? = some (.cells #[.string ⟨nm.toArray⟩, .int .i64 ty, .int .i64 tl, .string ⟨d.toArray⟩] 46 (0, 0)) from hu8.other (by first | exact br7.out | exact blk_alloc br7.out | exact blk_alloc (blk_alloc br7.out) | exact blk_alloc (blk_alloc (blk_alloc br7.out))) rfl); obtain ⟨r80, r81, r82, r83⟩ := cell4w br8.out; have hlr8 := blk_lt br8.out; have ner8 : ¬ wr.heap.size = w8.heap.size := (by omega); have nfr8 : ¬ w8.heap.size = wr.heap.size := (by omega))
                      | (go_at_call 35; (with_reducible refine (wdata_w (w1.heap.size + 1) ((((nameW nm S2).add (wd2 ty.toNat)).add (wd2 1)).add (w4 tl.toNat)) nm ty tl d _ k8.out (by simp [Wr.add, wd2, w4]; omega) hyoh.out).use ?_); rintro v w9 ⟨rfl, hu9, hc9⟩; have k9 := Lib.hid hc9; clear hc9; have b9 := Lib.hid (hu9.other b8.out rfl))
                      | (with_reducible refine wp_serial (by kernel_rfl) (by kernel_rfl) (by repeat with_reducible (first | apply NoBad.then | apply NoBad.inBlock | apply NoBad.jump | exact NoBad.rets)) ?_) | fail)
                    go_roundw
                    case rel => exact ⟨i + 1, by omega, by go_num, (by repeat first | with_reducible (first | exact Upd.refl _ _ | assumption | apply Upd.drew | apply Upd.alloc) | refine Upd0.tr ?_ (by with_reducible assumption) | refine UpdW.fin ?_ (by with_reducible assumption) | refine UpdF.fin ?_ (by with_reducible assumption) | refine Upd.setCell ?_ (fun h => absurd h (by first | exact Nat.lt_irrefl _ | (simp only []; omega))) _), b9, Lib.hid (by rw [hsn.out]; exact k9.out)⟩
                    case measure => simp [intOf]; omega
                  · obtain rfl : i = an.length := by omega
                    rw [List.take_length, ← hsk.out] at hM5
                    go_wp2_with (first | (with_reducible refine wp_serial (by kernel_rfl) (by kernel_rfl) (by repeat with_reducible (first | apply NoBad.then | apply NoBad.inBlock | apply NoBad.jump | exact NoBad.rets)) ?_) | fail)
                    go_roundw
                    case rel => exact ⟨1, by omega, by go_num, hu4, hbm4, hM5⟩
                    case measure => simp [intOf]
              · have hM4 := Lib.hid (show WrM w.heap.size wr (w1.heap.size + 1) (recsW an S) from hM3.out)
                have hp0 : (recsW an S).b.length ≤ 1005000 := by
                  have h1 := recs_le S haoh.out
                  omega
                obtain ⟨S', hS'⟩ : ∃ S', (recsW an S) = S' := ⟨_, rfl⟩
                have hsk := Lib.hid (show sk3 S an ns ex 2 = recsW ns S' by rw [← hS']; rfl)
                rw [hS'] at hM4 hp0
                have eK : ((1 : Nat) : Int) = 1 := rfl
                rw [eK]
                clear hS' hM3
                go_wp2_with (first | (with_reducible refine wp_serial (by kernel_rfl) (by kernel_rfl) (by repeat with_reducible (first | apply NoBad.then | apply NoBad.inBlock | apply NoBad.jump | exact NoBad.rets)) ?_) | fail)
                go_loopw [13, 109] (fun _ jj wr => ∃ i : Nat, i ≤ ns.length ∧ jj = .int .i64 i ∧ Upd0 w wr ∧ Hid (wr.heap[w.heap.size]? = some (.cells #[.int .i64 (i0 : Nat), .bool re, .int .i64 (o0 : Nat), .bool au, .bool tr, .bool wa, .bool av, .int .i64 (c0 : Nat), .slice q qs.length cq, .slice a an.length ca, .slice n ns.length cn, .slice x ex.length cx, .int .i64 0] 25 (0, 0))) ∧ Hid (WrM w.heap.size wr (w1.heap.size + 1) (recsW (ns.take i) S'))) (fun _ jj _ => ns.length - (intOf jj).toNat)
                case atStart => exact ⟨0, Nat.zero_le _, rfl, hu3, Lib.hid hbm3.out, Lib.hid (by simpa [recsW] using hM4.out)⟩
                case round =>
                  obtain ⟨i, hi, rfl, hu4, hbm4, hM5⟩ := hrel
                  have hmlt := blk_lt hbm4.out
                  by_cases hlt : i < ns.length
                  · obtain ⟨y, hx⟩ : ∃ x, ns[i]? = some x := ⟨ns[i], List.getElem?_eq_getElem hlt⟩
                    obtain ⟨g, o, rfl, hg, e0, e1, e2, e3⟩ := hh.out.ns.some hx
                    have hgw : g < wr.heap.size := Nat.lt_of_lt_of_le hg hu4.size
                    have d0 := hu4.cell (fun h => h) e0
                    have d1 := hu4.cell (fun h => h) e1
                    have d2 := hu4.cell (fun h => h) e2
                    have d3 := hu4.cell (fun h => h) e3
                    have hlb2 : (recsW (ns.take i) S').b.length ≤ 3100000 := by
                      have h1 := recs_le S' (all_tk hnoh.out i)
                      simp only [List.length_take] at h1
                      omega
                    have hyo := Rc.good (all_at hnoh.out hx)
                    have hsn := Lib.hid (recs_snoc hx S')
                    obtain ⟨S2, hS2⟩ : ∃ S2, recsW (ns.take i) S' = S2 := ⟨_, rfl⟩
                    rw [hS2] at hlb2 hM5 hsn
                    obtain ⟨nm, ty, tl, d⟩ := y
                    have hnb := nameW_len S2 hyo.nm
                    have hn254 := (cut_lab hyo.nm).1
                    have hty := Lib.hid (show ty = (ty.toNat : Int) by have := hyo.ty.1; simp only [] at this; omega)
                    have hty2 : ty.toNat ≤ 65535 := by have := hyo.ty.2; simp only [] at this; omega
                    have htl := Lib.hid (show tl = (tl.toNat : Int) by have := hyo.tl.1; simp only [] at this; omega)
                    have htl2 : tl.toNat ≤ 2147483647 := by have := hyo.tl.2; simp only [] at this; omega
                    have hyoh := Lib.hid hyo
                    simp only [] at d0 d1 d2 d3 hnb hn254
                    clear hx e0 e1 e2 e3 hS2 hyo
                    go_wp2_with (first
                      | (go_at_call 33; (with_reducible refine (name_w nm hyoh.out.nm (w1.heap.size + 1) S2 _ (hM5.out.to0 (by repeat first | with_reducible (first | exact Upd.refl _ _ | assumption | apply Upd.drew | apply Upd.alloc) | refine Upd0.tr ?_ (by with_reducible assumption) | refine Upd.setCell ?_ (fun h => absurd h (by first | exact Nat.lt_irrefl _ | (simp only []; omega))) _)) (by omega)).use ?_); rintro v w5 ⟨rfl, hu5, hc5⟩; have k5 := Lib.hid hc5; clear hc5; have b5 := Lib.hid (hu5.other (by first | exact hbm4.out | exact blk_alloc hbm4.out) rfl); have br5 := Lib.hid (show w5.heap[wr.heap.size]? = some (.cells #[.string ⟨nm.toArray⟩, .int .i64 ty, .int .i64 tl, .string ⟨d.toArray⟩] 46 (0, 0)) from hu5.other (by first | exact alloc_last _ _ _ rfl | exact blk_alloc (alloc_last _ _ _ rfl) | exact blk_alloc (blk_alloc (alloc_last _ _ _ rfl))) rfl); obtain ⟨r50, r51, r52, r53⟩ := cell4w br5.out; have hlr5 := blk_lt br5.out; have ner5 : ¬ wr.heap.size = w5.heap.size := (by omega); have nfr5 : ¬ w5.heap.size = wr.heap.size := (by omega))
                      | (go_at_call 31; (with_reducible refine (word_z (w1.heap.size + 1) (nameW nm S2) _ ty.toNat hty.out _ k5.out (by omega) (by omega)).use ?_); rintro v w6 ⟨rfl, hu6, hc6⟩; have k6 := Lib.hid hc6; clear hc6; have b6 := Lib.hid (hu6.other b5.out rfl); have br6 := Lib.hid (show w6.heap[wr.heap.size]? = some (.cells #[.string ⟨nm.toArray⟩, .int .i64 ty, .int .i64 tl, .string ⟨d.toArray⟩] 46 (0, 0)) from hu6.other (by first | exact br5.out | exact blk_alloc br5.out | exact blk_alloc (blk_alloc br5.out) | exact blk_alloc (blk_alloc (blk_alloc br5.out))) rfl); obtain ⟨r60, r61, r62, r63⟩ := cell4w br6.out; have hlr6 := blk_lt br6.out; have ner6 : ¬ wr.heap.size = w6.heap.size := (by omega); have nfr6 : ¬ w6.heap.size = wr.heap.size := (by omega))
                      | (go_at_call 31; (with_reducible refine (word_z (w1.heap.size + 1) ((nameW nm S2).add (wd2 ty.toNat)) 1 1 rfl _ k6.out (by simp [Wr.add, wd2]; omega) (by omega)).use ?_); rintro v w7 ⟨rfl, hu7, hc7⟩; have k7 := Lib.hid hc7; clear hc7; have b7 := Lib.hid (hu7.other b6.out rfl); have br7 := Lib.hid (show w7.heap[wr.heap.size]? = some (.cells #[.string ⟨nm.toArray⟩, .int .i64 ty, .int .i64 tl, .string ⟨d.toArray⟩] 46 (0, 0)) from hu7.other (by first | exact br6.out | exact blk_alloc br6.out | exact blk_alloc (blk_alloc br6.out) | exact blk_alloc (blk_alloc (blk_alloc br6.out))) rfl); obtain ⟨r70, r71, r72, r73⟩ := cell4w br7.out; have hlr7 := blk_lt br7.out; have ner7 : ¬ wr.heap.size = w7.heap.size := (by omega); have nfr7 : ¬ w7.heap.size = wr.heap.size := (by omega))
                      | (go_at_call 34; (with_reducible refine (long_z (w1.heap.size + 1) (((nameW nm S2).add (wd2 ty.toNat)).add (wd2 1)) _ tl.toNat htl.out _ k7.out (by simp [Wr.add, wd2]; omega) (by omega)).use ?_); rintro v w8 ⟨rfl, hu8, hc8⟩; have k8 := Lib.hid hc8; clear hc8; have b8 := Lib.hid (hu8.other b7.out rfl); have br8 := Lib.hid (show w8.heap[wr.heap.size]? = some (.cells #[.string ⟨nm.toArray⟩, .int .i64 ty, .int .i64 tl, .string ⟨d.toArray⟩] 46 (0, 0)) from hu8.other (by first | exact br7.out | exact blk_alloc br7.out | exact blk_alloc (blk_alloc br7.out) | exact blk_alloc (blk_alloc (blk_alloc br7.out))) rfl); obtain ⟨r80, r81, r82, r83⟩ := cell4w br8.out; have hlr8 := blk_lt br8.out; have ner8 : ¬ wr.heap.size = w8.heap.size := (by omega); have nfr8 : ¬ w8.heap.size = wr.heap.size := (by omega))
                      | (go_at_call 35; (with_reducible refine (wdata_w (w1.heap.size + 1) ((((nameW nm S2).add (wd2 ty.toNat)).add (wd2 1)).add (w4 tl.toNat)) nm ty tl d _ k8.out (by simp [Wr.add, wd2, w4]; omega) hyoh.out).use ?_); rintro v w9 ⟨rfl, hu9, hc9⟩; have k9 := Lib.hid hc9; clear hc9; have b9 := Lib.hid (hu9.other b8.out rfl))
                      | (with_reducible refine wp_serial (by kernel_rfl) (by kernel_rfl) (by repeat with_reducible (first | apply NoBad.then | apply NoBad.inBlock | apply NoBad.jump | exact NoBad.rets)) ?_) | fail)
                    go_roundw
                    case rel => exact ⟨i + 1, by omega, by go_num, (by repeat first | with_reducible (first | exact Upd.refl _ _ | assumption | apply Upd.drew | apply Upd.alloc) | refine Upd0.tr ?_ (by with_reducible assumption) | refine UpdW.fin ?_ (by with_reducible assumption) | refine UpdF.fin ?_ (by with_reducible assumption) | refine Upd.setCell ?_ (fun h => absurd h (by first | exact Nat.lt_irrefl _ | (simp only []; omega))) _), b9, Lib.hid (by rw [hsn.out]; exact k9.out)⟩
                    case measure => simp [intOf]; omega
                  · obtain rfl : i = ns.length := by omega
                    rw [List.take_length, ← hsk.out] at hM5
                    go_wp2_with (first | (with_reducible refine wp_serial (by kernel_rfl) (by kernel_rfl) (by repeat with_reducible (first | apply NoBad.then | apply NoBad.inBlock | apply NoBad.jump | exact NoBad.rets)) ?_) | fail)
                    go_roundw
                    case rel => exact ⟨2, by omega, by go_num, hu4, hbm4, hM5⟩
                    case measure => simp [intOf]
              · have hM4 := Lib.hid (show WrM w.heap.size wr (w1.heap.size + 1) (recsW ns (recsW an S)) from hM3.out)
                have hp0 : (recsW ns (recsW an S)).b.length ≤ 2005000 := by
                  have h1 := recs_le S haoh.out
                  have h2 := recs_le (recsW an S) hnoh.out
                  omega
                obtain ⟨S', hS'⟩ : ∃ S', (recsW ns (recsW an S)) = S' := ⟨_, rfl⟩
                have hsk := Lib.hid (show sk3 S an ns ex 3 = recsW ex S' by rw [← hS']; rfl)
                rw [hS'] at hM4 hp0
                have eK : ((2 : Nat) : Int) = 2 := rfl
                rw [eK]
                clear hS' hM3
                go_wp2_with (first | (with_reducible refine wp_serial (by kernel_rfl) (by kernel_rfl) (by repeat with_reducible (first | apply NoBad.then | apply NoBad.inBlock | apply NoBad.jump | exact NoBad.rets)) ?_) | fail)
                go_loopw [13, 109] (fun _ jj wr => ∃ i : Nat, i ≤ ex.length ∧ jj = .int .i64 i ∧ Upd0 w wr ∧ Hid (wr.heap[w.heap.size]? = some (.cells #[.int .i64 (i0 : Nat), .bool re, .int .i64 (o0 : Nat), .bool au, .bool tr, .bool wa, .bool av, .int .i64 (c0 : Nat), .slice q qs.length cq, .slice a an.length ca, .slice n ns.length cn, .slice x ex.length cx, .int .i64 0] 25 (0, 0))) ∧ Hid (WrM w.heap.size wr (w1.heap.size + 1) (recsW (ex.take i) S'))) (fun _ jj _ => ex.length - (intOf jj).toNat)
                case atStart => exact ⟨0, Nat.zero_le _, rfl, hu3, Lib.hid hbm3.out, Lib.hid (by simpa [recsW] using hM4.out)⟩
                case round =>
                  obtain ⟨i, hi, rfl, hu4, hbm4, hM5⟩ := hrel
                  have hmlt := blk_lt hbm4.out
                  by_cases hlt : i < ex.length
                  · obtain ⟨y, hx⟩ : ∃ x, ex[i]? = some x := ⟨ex[i], List.getElem?_eq_getElem hlt⟩
                    obtain ⟨g, o, rfl, hg, e0, e1, e2, e3⟩ := hh.out.ex.some hx
                    have hgw : g < wr.heap.size := Nat.lt_of_lt_of_le hg hu4.size
                    have d0 := hu4.cell (fun h => h) e0
                    have d1 := hu4.cell (fun h => h) e1
                    have d2 := hu4.cell (fun h => h) e2
                    have d3 := hu4.cell (fun h => h) e3
                    have hlb2 : (recsW (ex.take i) S').b.length ≤ 3100000 := by
                      have h1 := recs_le S' (all_tk hxoh.out i)
                      simp only [List.length_take] at h1
                      omega
                    have hyo := Rc.good (all_at hxoh.out hx)
                    have hsn := Lib.hid (recs_snoc hx S')
                    obtain ⟨S2, hS2⟩ : ∃ S2, recsW (ex.take i) S' = S2 := ⟨_, rfl⟩
                    rw [hS2] at hlb2 hM5 hsn
                    obtain ⟨nm, ty, tl, d⟩ := y
                    have hnb := nameW_len S2 hyo.nm
                    have hn254 := (cut_lab hyo.nm).1
                    have hty := Lib.hid (show ty = (ty.toNat : Int) by have := hyo.ty.1; simp only [] at this; omega)
                    have hty2 : ty.toNat ≤ 65535 := by have := hyo.ty.2; simp only [] at this; omega
                    have htl := Lib.hid (show tl = (tl.toNat : Int) by have := hyo.tl.1; simp only [] at this; omega)
                    have htl2 : tl.toNat ≤ 2147483647 := by have := hyo.tl.2; simp only [] at this; omega
                    have hyoh := Lib.hid hyo
                    simp only [] at d0 d1 d2 d3 hnb hn254
                    clear hx e0 e1 e2 e3 hS2 hyo
                    go_wp2_with (first
                      | (go_at_call 33; (with_reducible refine (name_w nm hyoh.out.nm (w1.heap.size + 1) S2 _ (hM5.out.to0 (by repeat first | with_reducible (first | exact Upd.refl _ _ | assumption | apply Upd.drew | apply Upd.alloc) | refine Upd0.tr ?_ (by with_reducible assumption) | refine Upd.setCell ?_ (fun h => absurd h (by first | exact Nat.lt_irrefl _ | (simp only []; omega))) _)) (by omega)).use ?_); rintro v w5 ⟨rfl, hu5, hc5⟩; have k5 := Lib.hid hc5; clear hc5; have b5 := Lib.hid (hu5.other (by first | exact hbm4.out | exact blk_alloc hbm4.out) rfl); have br5 := Lib.hid (show w5.heap[wr.heap.size]? = some (.cells #[.string ⟨nm.toArray⟩, .int .i64 ty, .int .i64 tl, .string ⟨d.toArray⟩] 46 (0, 0)) from hu5.other (by first | exact alloc_last _ _ _ rfl | exact blk_alloc (alloc_last _ _ _ rfl) | exact blk_alloc (blk_alloc (alloc_last _ _ _ rfl))) rfl); obtain ⟨r50, r51, r52, r53⟩ := cell4w br5.out; have hlr5 := blk_lt br5.out; have ner5 : ¬ wr.heap.size = w5.heap.size := (by omega); have nfr5 : ¬ w5.heap.size = wr.heap.size := (by omega))
                      | (go_at_call 31; (with_reducible refine (word_z (w1.heap.size + 1) (nameW nm S2) _ ty.toNat hty.out _ k5.out (by omega) (by omega)).use ?_); rintro v w6 ⟨rfl, hu6, hc6⟩; have k6 := Lib.hid hc6; clear hc6; have b6 := Lib.hid (hu6.other b5.out rfl); have br6 := Lib.hid (show w6.heap[wr.heap.size]? = some (.cells #[.string ⟨nm.toArray⟩, .int .i64 ty, .int .i64 tl, .string ⟨d.toArray⟩] 46 (0, 0)) from hu6.other (by first | exact br5.out | exact blk_alloc br5.out | exact blk_alloc (blk_alloc br5.out) | exact blk_alloc (blk_alloc (blk_alloc br5.out))) rfl); obtain ⟨r60, r61, r62, r63⟩ := cell4w br6.out; have hlr6 := blk_lt br6.out; have ner6 : ¬ wr.heap.size = w6.heap.size := (by omega); have nfr6 : ¬ w6.heap.size = wr.heap.size := (by omega))
                      | (go_at_call 31; (with_reducible refine (word_z (w1.heap.size + 1) ((nameW nm S2).add (wd2 ty.toNat)) 1 1 rfl _ k6.out (by simp [Wr.add, wd2]; omega) (by omega)).use ?_); rintro v w7 ⟨rfl, hu7, hc7⟩; have k7 := Lib.hid hc7; clear hc7; have b7 := Lib.hid (hu7.other b6.out rfl); have br7 := Lib.hid (show w7.heap[wr.heap.size]? = some (.cells #[.string ⟨nm.toArray⟩, .int .i64 ty, .int .i64 tl, .string ⟨d.toArray⟩] 46 (0, 0)) from hu7.other (by first | exact br6.out | exact blk_alloc br6.out | exact blk_alloc (blk_alloc br6.out) | exact blk_alloc (blk_alloc (blk_alloc br6.out))) rfl); obtain ⟨r70, r71, r72, r73⟩ := cell4w br7.out; have hlr7 := blk_lt br7.out; have ner7 : ¬ wr.heap.size = w7.heap.size := (by omega); have nfr7 : ¬ w7.heap.size = wr.heap.size := (by omega))
                      | (go_at_call 34; (with_reducible refine (long_z (w1.heap.size + 1) (((nameW nm S2).add (wd2 ty.toNat)).add (wd2 1)) _ tl.toNat htl.out _ k7.out (by simp [Wr.add, wd2]; omega) (by omega)).use ?_); rintro v w8 ⟨rfl, hu8, hc8⟩; have k8 := Lib.hid hc8; clear hc8; have b8 := Lib.hid (hu8.other b7.out rfl); have br8 := Lib.hid (show w8.heap[wr.heap.size]? = some (.cells #[.string ⟨nm.toArray⟩, .int .i64 ty, .int .i64 tl, .string ⟨d.toArray⟩] 46 (0, 0)) from hu8.other (by first | exact br7.out | exact blk_alloc br7.out | exact blk_alloc (blk_alloc br7.out) | exact blk_alloc (blk_alloc (blk_alloc br7.out))) rfl); obtain ⟨r80, r81, r82, r83⟩ := cell4w br8.out; have hlr8 := blk_lt br8.out; have ner8 : ¬ wr.heap.size = w8.heap.size := (by omega); have nfr8 : ¬ w8.heap.size = wr.heap.size := (by omega))
                      | (go_at_call 35; (with_reducible refine (wdata_w (w1.heap.size + 1) ((((nameW nm S2).add (wd2 ty.toNat)).add (wd2 1)).add (w4 tl.toNat)) nm ty tl d _ k8.out (by simp [Wr.add, wd2, w4]; omega) hyoh.out).use ?_); rintro v w9 ⟨rfl, hu9, hc9⟩; have k9 := Lib.hid hc9; clear hc9; have b9 := Lib.hid (hu9.other b8.out rfl))
                      | (with_reducible refine wp_serial (by kernel_rfl) (by kernel_rfl) (by repeat with_reducible (first | apply NoBad.then | apply NoBad.inBlock | apply NoBad.jump | exact NoBad.rets)) ?_) | fail)
                    go_roundw
                    case rel => exact ⟨i + 1, by omega, by go_num, (by repeat first | with_reducible (first | exact Upd.refl _ _ | assumption | apply Upd.drew | apply Upd.alloc) | refine Upd0.tr ?_ (by with_reducible assumption) | refine UpdW.fin ?_ (by with_reducible assumption) | refine UpdF.fin ?_ (by with_reducible assumption) | refine Upd.setCell ?_ (fun h => absurd h (by first | exact Nat.lt_irrefl _ | (simp only []; omega))) _), b9, Lib.hid (by rw [hsn.out]; exact k9.out)⟩
                    case measure => simp [intOf]; omega
                  · obtain rfl : i = ex.length := by omega
                    rw [List.take_length, ← hsk.out] at hM5
                    go_wp2_with (first | (with_reducible refine wp_serial (by kernel_rfl) (by kernel_rfl) (by repeat with_reducible (first | apply NoBad.then | apply NoBad.inBlock | apply NoBad.jump | exact NoBad.rets)) ?_) | fail)
                    go_roundw
                    case rel => exact ⟨3, by omega, by go_num, hu4, hbm4, hM5⟩
                    case measure => simp [intOf]
            · obtain rfl : k = 3 := by omega
              have h1 := recs_le S haoh.out
              have h2 := recs_le (recsW an S) hnoh.out
              have h3 := recs_le (recsW ns (recsW an S)) hxoh.out
              have hM4 := Lib.hid (show WrM w.heap.size wr (w1.heap.size + 1) (recsW ex (recsW ns (recsW an S))) from hM3.out)
              clear hM3
              obtain ⟨m0, m1, m2, m3, m4, m5, m6, m7, m8, m9, mA, mB, mC⟩ := cell13w hbm3.out
              have hmlt := blk_lt hbm3.out
              obtain ⟨F, hF⟩ : ∃ F, (recsW ex (recsW ns (recsW an S))) = F := ⟨_, rfl⟩
              rw [hF] at hM4 h3
              have hG : encW ⟨(i0 : Nat), re, (o0 : Nat), au, tr, wa, av, (c0 : Nat), qs, an, ns, ex, 0⟩ = F := by rw [hEWh.out, hF, optW, if_pos rfl]
              have hGh := Lib.hid hG
              clear hG hF hEWh
              obtain ⟨hok9, v9, mb9, nn9, D9, hI9⟩ := hM4.out
              obtain ⟨ao9, cap9, rfl⟩ := hI9.row.isSlice
              obtain ⟨c90, c91, c92⟩ := two_w hI9.blk
              have hI9h := Lib.hid hI9
              clear hI9
              by_cases hbig : F.b.length ≤ 65535
              · have hbig2 : ¬ (65535 : Int) < F.b.length := by omega
                go_wp2_with (first
                  | (refine wpList_ofB rfl (.tmp 156) 38 9 rfl 5 Try.underlying38 Try.underlying5 Try.underlying9 rfl hI9h.out.row ?_)
                  | (with_reducible refine wp_serial (by kernel_rfl) (by kernel_rfl) (by repeat with_reducible (first | apply NoBad.then | apply NoBad.inBlock | apply NoBad.jump | exact NoBad.rets)) ?_) | fail)
                all_goals go_returns
                all_goals exact ⟨by rw [hESh.out, hECh.out, hGh.out, if_pos hbig]; rfl, (by repeat first | with_reducible (first | exact Upd.refl _ _ | assumption | apply Upd.drew | apply Upd.alloc) | refine Upd0.tr ?_ (by with_reducible assumption) | refine UpdW.fin ?_ (by with_reducible assumption) | refine UpdF.fin ?_ (by with_reducible assumption) | refine Upd.setCell ?_ (fun h => absurd h (by first | exact Nat.lt_irrefl _ | (simp only []; omega))) _)⟩
              · have hbig2 : (65535 : Int) < F.b.length := by omega
                go_wp2_with (first | (with_reducible refine wp_serial (by kernel_rfl) (by kernel_rfl) (by repeat with_reducible (first | apply NoBad.then | apply NoBad.inBlock | apply NoBad.jump | exact NoBad.rets)) ?_) | fail)
                all_goals go_returns
                all_goals exact ⟨by rw [hESh.out, hECh.out, hGh.out, if_neg hbig]; rfl, (by repeat first | with_reducible (first | exact Upd.refl _ _ | assumption | apply Upd.drew | apply Upd.alloc) | refine Upd0.tr ?_ (by with_reducible assumption) | refine UpdW.fin ?_ (by with_reducible assumption) | refine UpdF.fin ?_ (by with_reducible assumption) | refine Upd.setCell ?_ (fun h => absurd h (by first | exact Nat.lt_irrefl _ | (simp only []; omega))) _)⟩
set_option maxRecDepth 100000 in
set_option maxHeartbeats 32000000 in
theorem enc_s (i0 o0 c0 : Nat) (re au tr wa av : Bool) (qs : List Qn) (an ns ex : List Rc) (z0 : Nat) (hz0 : 512 ≤ z0) (hz1 : z0 ≤ 65535) (q a n x : Option Addr) (cq ca cn cx : Nat) (w : World) (h : MsR w ⟨(i0 : Nat), re, (o0 : Nat), au, tr, wa, av, (c0 : Nat), qs, an, ns, ex, (z0 : Nat)⟩ q a n x) (hm : Mid ⟨(i0 : Nat), re, (o0 : Nat), au, tr, wa, av, (c0 : Nat), qs, an, ns, ex, (z0 : Nat)⟩) (hB : msgB ⟨(i0 : Nat), re, (o0 : Nat), au, tr, wa, av, (c0 : Nat), qs, an, ns, ex, (z0 : Nat)⟩ = true) :
    Calls Try.prog 18 #[Msg.val ⟨(i0 : Nat), re, (o0 : Nat), au, tr, wa, av, (c0 : Nat), qs, an, ns, ex, (z0 : Nat)⟩ q a n x cq ca cn cx] w (Rets fun r w' => r = .tuple #[.string ⟨(encS ⟨(i0 : Nat), re, (o0 : Nat), au, tr, wa, av, (c0 : Nat), qs, an, ns, ex, (z0 : Nat)⟩).toArray⟩, .int .i64 (encC ⟨(i0 : Nat), re, (o0 : Nat), au, tr, wa, av, (c0 : Nat), qs, an, ns, ex, (z0 : Nat)⟩)] ∧ Upd0 w w') := by
  have hh := Lib.hid h
  have hc0 : msgC ⟨(i0 : Nat), re, (o0 : Nat), au, tr, wa, av, (c0 : Nat), qs, an, ns, ex, (z0 : Nat)⟩ = 0 := by rw [msgC, hB]; rfl
  have hC := Lib.hid (show ∀ w', Upd0 w w' → Calls Try.prog 20 #[Msg.val ⟨(i0 : Nat), re, (o0 : Nat), au, tr, wa, av, (c0 : Nat), qs, an, ns, ex, (z0 : Nat)⟩ q a n x cq ca cn cx] w' (Rets fun r w'' => r = .int .i64 0 ∧ Upd0 w' w'') from fun w' k => by
    have := check_w ⟨(i0 : Nat), re, (o0 : Nat), au, tr, wa, av, (c0 : Nat), qs, an, ns, ex, (z0 : Nat)⟩ q a n x cq ca cn cx w' (hh.out.up k) hm
    rw [hc0] at this
    exact this)
  have hok := msg_ok hB
  have hEC : encC ⟨(i0 : Nat), re, (o0 : Nat), au, tr, wa, av, (c0 : Nat), qs, an, ns, ex, (z0 : Nat)⟩ = if (encW ⟨(i0 : Nat), re, (o0 : Nat), au, tr, wa, av, (c0 : Nat), qs, an, ns, ex, (z0 : Nat)⟩).b.length ≤ 65535 then 0 else 4 := by rw [encC, hB]; rfl
  have hES : encS ⟨(i0 : Nat), re, (o0 : Nat), au, tr, wa, av, (c0 : Nat), qs, an, ns, ex, (z0 : Nat)⟩ = if encC ⟨(i0 : Nat), re, (o0 : Nat), au, tr, wa, av, (c0 : Nat), qs, an, ns, ex, (z0 : Nat)⟩ = 0 then (encW ⟨(i0 : Nat), re, (o0 : Nat), au, tr, wa, av, (c0 : Nat), qs, an, ns, ex, (z0 : Nat)⟩).b else [] := rfl
  have o15 : o0 ≤ 15 := by have := hok.op.2; simp only [] at this; omega
  have c15 : c0 ≤ 15 := by have := hok.rc.2; simp only [] at this; omega
  have i65 : i0 ≤ 65535 := by have := hok.id.2; simp only [] at this; omega
  obtain ⟨q10, hqo⟩ := hok.qs
  obtain ⟨a200, hao⟩ := hok.an
  obtain ⟨n200, hno⟩ := hok.ns
  obtain ⟨x200, hxo⟩ := hok.ex
  simp only [] at q10 hqo a200 hao n200 hno x200 hxo
  have hqoh := Lib.hid hqo
  have haoh := Lib.hid hao
  have hnoh := Lib.hid hno
  have hxoh := Lib.hid hxo
  have hfl := Lib.hid (flg_or re au tr wa av o0 c0 o15 c15)
  have hF : flg ⟨(i0 : Nat), re, (o0 : Nat), au, tr, wa, av, (c0 : Nat), qs, an, ns, ex, (z0 : Nat)⟩ = b2n re 32768 + 2048 * o0 + b2n au 1024 + b2n tr 512 + b2n wa 256 + b2n av 128 + c0 := by simp [flg]
  have hFlt := flg_lt ⟨(i0 : Nat), re, (o0 : Nat), au, tr, wa, av, (c0 : Nat), qs, an, ns, ex, (z0 : Nat)⟩ (by show (o0 : Int) ≤ 15; omega) (by show (c0 : Int) ≤ 15; omega)
  rw [hF] at hFlt
  have hFh := Lib.hid hF
  have hECh := Lib.hid hEC
  have hESh := Lib.hid hES
  have tkW : True := trivial
  have hmm := @run_makeMap Try.prog
  clear h hm hB hc0 hok hqo hao hno hxo hEC hES hF
  simp only [Msg.val] at hC ⊢
  have hzn : ¬ (z0 : Int) = 0 := by omega
  have hFl := Lib.hid (show ∀ w, Calls Try.prog 32 #[.bool ((z0 : Int) != 0), .int .i64 1] w (Rets fun r w' => r = .int .i64 1 ∧ Upd0 w w') from fun w => by
    have e : ((z0 : Int) != 0) = true := by simp; omega
    rw [e]
    exact flag_l true w)
  go_enter Try.func18, Try.ntmps18
  go_wp2_with (first
    | (go_at_call 20; (with_reducible refine (hC.out _ (by repeat first | with_reducible (first | exact Upd.refl _ _ | assumption | apply Upd.drew | apply Upd.alloc) | refine Upd0.tr ?_ (by with_reducible assumption) | refine Upd.setCell ?_ (fun h => absurd h (by first | exact Nat.lt_irrefl _ | (simp only []; omega))) _)).use ?_); rintro v w1 ⟨rfl, hu1⟩; have bm1 := Lib.hid (show w1.heap[w.heap.size]? = some (.cells #[.int .i64 (i0 : Nat), .bool re, .int .i64 (o0 : Nat), .bool au, .bool tr, .bool wa, .bool av, .int .i64 (c0 : Nat), .slice q qs.length cq, .slice a an.length ca, .slice n ns.length cn, .slice x ex.length cx, .int .i64 (z0 : Nat)] 25 (0, 0)) from hu1.block (fun h => h) (by first | exact alloc_last _ _ _ rfl | exact blk_alloc (alloc_last _ _ _ rfl) | exact blk_alloc (blk_alloc (alloc_last _ _ _ rfl)))); obtain ⟨m10, m11, m12, m13, m14, m15, m16, m17, m18, m19, m110, m111, m112⟩ := cell13w bm1.out; have hlm1 := blk_lt bm1.out; have nem1 : ¬ w.heap.size = w1.heap.size := (by omega); have nfm1 : ¬ w1.heap.size = w.heap.size := (by omega))
    | (go_at_call 31; have _t := tkW; (with_reducible refine (word_z (B := w.heap.size) (w1.heap.size + 1) ⟨[], []⟩ _ i0 rfl _ ((wrm_new w1 (by omega)).to0 (by repeat first | with_reducible (first | exact Upd.refl _ _ | assumption | apply Upd.drew | apply Upd.alloc) | refine Upd0.tr ?_ (by with_reducible assumption) | refine Upd.setCell ?_ (fun h => absurd h (by first | exact Nat.lt_irrefl _ | (simp only []; omega))) _)) (by simp) (by omega)).use ?_); rintro v w2 ⟨rfl, hu2, hc2⟩; have k2 := Lib.hid hc2; clear hc2 tkW _t; have bm2 := Lib.hid (show w2.heap[w.heap.size]? = some (.cells #[.int .i64 (i0 : Nat), .bool re, .int .i64 (o0 : Nat), .bool au, .bool tr, .bool wa, .bool av, .int .i64 (c0 : Nat), .slice q qs.length cq, .slice a an.length ca, .slice n ns.length cn, .slice x ex.length cx, .int .i64 (z0 : Nat)] 25 (0, 0)) from hu2.other (by first | exact bm1.out | exact blk_alloc bm1.out | exact blk_alloc (blk_alloc bm1.out) | exact blk_alloc (blk_alloc (blk_alloc bm1.out))) rfl); obtain ⟨m20, m21, m22, m23, m24, m25, m26, m27, m28, m29, m210, m211, m212⟩ := cell13w bm2.out; have hlm2 := blk_lt bm2.out; have nem2 : ¬ w.heap.size = w2.heap.size := (by omega); have nfm2 : ¬ w2.heap.size = w.heap.size := (by omega))
    | ((with_reducible refine S8.wp_serial3_5 158 [] [0, 1, 2, 4, 5, 6, 8, 9, 12, 13, 16, 17, 20, 21, 24, 25] 3 [7] 10 [11] 14 [15] 18 [19] 22 [23, 26, 27] [_, _, _, _, _, _, _, _, _, _, _, _, _, _, _, _] _ [_] _ [_] _ [_] _ [_] _ [_, _, _] (by kernel_rfl) (by decide +kernel) rfl rfl rfl rfl rfl rfl rfl rfl rfl rfl rfl (by refine ⟨by first | decide | simp, fun s hs => absurd hs List.not_mem_nil⟩) (by repeat with_reducible (first | apply NoBad.then | apply NoBad.inBlock | apply NoBad.jump | exact NoBad.rets)) ?_))
    | (go_at_call 32; (with_reducible refine (flag_z re 32768 32768 rfl _).use ?_); rintro v f1 ⟨rfl, huf1⟩)
    | (go_at_call 32; (with_reducible refine (flag_z au 1024 1024 rfl _).use ?_); rintro v f2 ⟨rfl, huf2⟩)
    | (go_at_call 32; (with_reducible refine (flag_z tr 512 512 rfl _).use ?_); rintro v f3 ⟨rfl, huf3⟩)
    | (go_at_call 32; (with_reducible refine (flag_z wa 256 256 rfl _).use ?_); rintro v f4 ⟨rfl, huf4⟩)
    | (go_at_call 32; (with_reducible refine (flag_z av 128 128 rfl _).use ?_); rintro v f5 ⟨rfl, huf5⟩)
    | (refine And.intro (And.intro huf5.ext rfl) ?_)
    | (refine And.intro (And.intro huf4.ext rfl) ?_)
    | (refine And.intro (And.intro huf3.ext rfl) ?_)
    | (refine And.intro (And.intro huf2.ext rfl) ?_)
    | (refine And.intro (And.intro huf1.ext rfl) ?_)
    | (go_at_call 31; (with_reducible refine (word_z (w1.heap.size + 1) ((⟨[], []⟩ : Wr).add (wd2 i0)) _ _ hfl.out _ (k2.out.to0 (by repeat first | with_reducible (first | exact Upd.refl _ _ | assumption | apply Upd.drew | apply Upd.alloc) | refine Upd0.tr ?_ (by with_reducible assumption) | refine Upd.setCell ?_ (fun h => absurd h (by first | exact Nat.lt_irrefl _ | (simp only []; omega))) _)) (by simp [Wr.add, wd2]) (by omega)).use ?_); rintro v w3 ⟨rfl, hu3, hc3⟩; rw [← hFh.out] at hc3; have k3 := Lib.hid hc3; clear hc3; have bmf := Lib.hid ((show Upd0 w2 f5 from (by repeat first | with_reducible (first | exact Upd.refl _ _ | assumption | apply Upd.drew | apply Upd.alloc) | refine Upd0.tr ?_ (by with_reducible assumption) | refine Upd.setCell ?_ (fun h => absurd h (by first | exact Nat.lt_irrefl _ | (simp only []; omega))) _)).block (fun h => h) bm2.out); have bm3 := Lib.hid (show w3.heap[w.heap.size]? = some (.cells #[.int .i64 (i0 : Nat), .bool re, .int .i64 (o0 : Nat), .bool au, .bool tr, .bool wa, .bool av, .int .i64 (c0 : Nat), .slice q qs.length cq, .slice a an.length ca, .slice n ns.length cn, .slice x ex.length cx, .int .i64 (z0 : Nat)] 25 (0, 0)) from hu3.other bmf.out rfl); obtain ⟨m30, m31, m32, m33, m34, m35, m36, m37, m38, m39, m310, m311, m312⟩ := cell13w bm3.out; have hlm3 := blk_lt bm3.out; have nem3 : ¬ w.heap.size = w3.heap.size := (by omega); have nfm3 : ¬ w3.heap.size = w.heap.size := (by omega))
    | ((with_reducible refine S8.wp_serial3_1 158 [] [12, 13, 14, 0, 1, 2, 3, 4, 5, 6, 7, 8, 9, 10, 11] 15 [16, 17, 18] [_, _, _, _, _, _, _, _, _, _, _, _, _, _, _] _ [_, _, _] (by kernel_rfl) (by decide +kernel) rfl rfl rfl (by refine ⟨by first | decide | simp, fun s hs => absurd hs List.not_mem_nil⟩) (by repeat with_reducible (first | apply NoBad.then | apply NoBad.inBlock | apply NoBad.jump | exact NoBad.rets)) ?_))
    | (go_at_call 32; (with_reducible refine (hFl.out _).use ?_); rintro v f6 ⟨rfl, huf6⟩; have hvf := Lib.hid (show Upd0 w f6 from (by repeat first | with_reducible (first | exact Upd.refl _ _ | assumption | apply Upd.drew | apply Upd.alloc) | refine Upd0.tr ?_ (by with_reducible assumption) | refine UpdW.fin ?_ (by with_reducible assumption) | refine UpdF.fin ?_ (by with_reducible assumption) | refine Upd.setCell ?_ (fun h => absurd h (by first | exact Nat.lt_irrefl _ | (simp only []; omega))) _)); have bm6 := Lib.hid ((show Upd0 w3 f6 from (by repeat first | with_reducible (first | exact Upd.refl _ _ | assumption | apply Upd.drew | apply Upd.alloc) | refine Upd0.tr ?_ (by with_reducible assumption) | refine Upd.setCell ?_ (fun h => absurd h (by first | exact Nat.lt_irrefl _ | (simp only []; omega))) _)).block (fun h => h) bm3.out))
    | (refine And.intro (And.intro huf6.ext rfl) ?_)
    | (with_reducible refine wp_serial (by kernel_rfl) (by kernel_rfl) (by repeat with_reducible (first | apply NoBad.then | apply NoBad.inBlock | apply NoBad.jump | exact NoBad.rets)) ?_) | fail)
  have hS1 : ((((⟨[], []⟩ : Wr).add (wd2 i0)).add (wd2 (flg ⟨(i0 : Nat), re, (o0 : Nat), au, tr, wa, av, (c0 : Nat), qs, an, ns, ex, (z0 : Nat)⟩))).add (hds [qs.length, an.length, ns.length, (ex.length + 1)] 4)) = (⟨headW ⟨(i0 : Nat), re, (o0 : Nat), au, tr, wa, av, (c0 : Nat), qs, an, ns, ex, (z0 : Nat)⟩, []⟩ : Wr) := by
    simp [hds, Wr.add, headW, b2n, (show z0 ≠ 0 by omega)]
  have hS1h := Lib.hid hS1
  have hhl : (headW ⟨(i0 : Nat), re, (o0 : Nat), au, tr, wa, av, (c0 : Nat), qs, an, ns, ex, (z0 : Nat)⟩).length = 12 := by simp [headW, wd2]
  clear hS1
  go_loopw [7, 72] (fun _ jj wr => ∃ i : Nat, i ≤ 4 ∧ jj = .int .i64 i ∧ Upd0 w wr ∧ Hid (wr.heap[w.heap.size]? = some (.cells #[.int .i64 (i0 : Nat), .bool re, .int .i64 (o0 : Nat), .bool au, .bool tr, .bool wa, .bool av, .int .i64 (c0 : Nat), .slice q qs.length cq, .slice a an.length ca, .slice n ns.length cn, .slice x ex.length cx, .int .i64 (z0 : Nat)] 25 (0, 0))) ∧ Hid (WrM w.heap.size wr (w1.heap.size + 1) ((((⟨[], []⟩ : Wr).add (wd2 i0)).add (wd2 (flg ⟨(i0 : Nat), re, (o0 : Nat), au, tr, wa, av, (c0 : Nat), qs, an, ns, ex, (z0 : Nat)⟩))).add (hds [qs.length, an.length, ns.length, (ex.length + 1)] i)))) (fun _ jj _ => 4 - (intOf jj).toNat)
  case atStart => exact ⟨0, Nat.zero_le _, rfl, hvf.out, Lib.hid bm6.out, Lib.hid (by have := k3.out.to0 (show Upd0 w3 f6 from (by repeat first | with_reducible (first | exact Upd.refl _ _ | assumption | apply Upd.drew | apply Upd.alloc) | refine Upd0.tr ?_ (by with_reducible assumption) | refine Upd.setCell ?_ (fun h => absurd h (by first | exact Nat.lt_irrefl _ | (simp only []; omega))) _)); simpa [hds, Wr.add] using this)⟩
  case round =>
    obtain ⟨i, hi, rfl, hu, hbm, hM⟩ := hrel
    by_cases hi4 : i < 4
    · rcases (show i = 0 ∨ i = 1 ∨ i = 2 ∨ i = 3 by omega) with rfl | rfl | rfl | rfl
      · go_wp2_with (first
          | (go_at_call 31; (with_reducible refine (word_z (w1.heap.size + 1) _ _ (qs.length) (by first | rfl | omega | simp) _ (hM.out.to0 (by repeat first | with_reducible (first | exact Upd.refl _ _ | assumption | apply Upd.drew | apply Upd.alloc) | refine Upd0.tr ?_ (by with_reducible assumption) | refine Upd.setCell ?_ (fun h => absurd h (by first | exact Nat.lt_irrefl _ | (simp only []; omega))) _)) (by simp [Wr.add, hds, wd2]) (by omega)).use ?_); rintro v w4 ⟨rfl, hu4, hc4⟩; have k4 := Lib.hid hc4; clear hc4)
          | (with_reducible refine wp_serial (by kernel_rfl) (by kernel_rfl) (by repeat with_reducible (first | apply NoBad.then | apply NoBad.inBlock | apply NoBad.jump | exact NoBad.rets)) ?_) | fail)
        go_roundw
        case rel => exact ⟨1, by omega, by go_num, (by repeat first | with_reducible (first | exact Upd.refl _ _ | assumption | apply Upd.drew | apply Upd.alloc) | refine Upd0.tr ?_ (by with_reducible assumption) | refine UpdW.fin ?_ (by with_reducible assumption) | refine UpdF.fin ?_ (by with_reducible assumption) | refine Upd.setCell ?_ (fun h => absurd h (by first | exact Nat.lt_irrefl _ | (simp only []; omega))) _), Lib.hid (hu4.other (by first | exact hbm.out | exact blk_alloc hbm.out) rfl), Lib.hid (by have := k4.out; simpa [hds, Wr.add] using this)⟩
        case measure => simp [intOf]
      · go_wp2_with (first
          | (go_at_call 31; (with_reducible refine (word_z (w1.heap.size + 1) _ _ (an.length) (by first | rfl | omega | simp) _ (hM.out.to0 (by repeat first | with_reducible (first | exact Upd.refl _ _ | assumption | apply Upd.drew | apply Upd.alloc) | refine Upd0.tr ?_ (by with_reducible assumption) | refine Upd.setCell ?_ (fun h => absurd h (by first | exact Nat.lt_irrefl _ | (simp only []; omega))) _)) (by simp [Wr.add, hds, wd2]) (by omega)).use ?_); rintro v w4 ⟨rfl, hu4, hc4⟩; have k4 := Lib.hid hc4; clear hc4)
          | (with_reducible refine wp_serial (by kernel_rfl) (by kernel_rfl) (by repeat with_reducible (first | apply NoBad.then | apply NoBad.inBlock | apply NoBad.jump | exact NoBad.rets)) ?_) | fail)
        go_roundw
        case rel => exact ⟨2, by omega, by go_num, (by repeat first | with_reducible (first | exact Upd.refl _ _ | assumption | apply Upd.drew | apply Upd.alloc) | refine Upd0.tr ?_ (by with_reducible assumption) | refine UpdW.fin ?_ (by with_reducible assumption) | refine UpdF.fin ?_ (by with_reducible assumption) | refine Upd.setCell ?_ (fun h => absurd h (by first | exact Nat.lt_irrefl _ | (simp only []; omega))) _), Lib.hid (hu4.other (by first | exact hbm.out | exact blk_alloc hbm.out) rfl), Lib.hid (by have := k4.out; simpa [hds, Wr.add] using this)⟩
        case measure => simp [intOf]
      · go_wp2_with (first
          | (go_at_call 31; (with_reducible refine (word_z (w1.heap.size + 1) _ _ (ns.length) (by first | rfl | omega | simp) _ (hM.out.to0 (by repeat first | with_reducible (first | exact Upd.refl _ _ | assumption | apply Upd.drew | apply Upd.alloc) | refine Upd0.tr ?_ (by with_reducible assumption) | refine Upd.setCell ?_ (fun h => absurd h (by first | exact Nat.lt_irrefl _ | (simp only []; omega))) _)) (by simp [Wr.add, hds, wd2]) (by omega)).use ?_); rintro v w4 ⟨rfl, hu4, hc4⟩; have k4 := Lib.hid hc4; clear hc4)
          | (with_reducible refine wp_serial (by kernel_rfl) (by kernel_rfl) (by repeat with_reducible (first | apply NoBad.then | apply NoBad.inBlock | apply NoBad.jump | exact NoBad.rets)) ?_) | fail)
        go_roundw
        case rel => exact ⟨3, by omega, by go_num, (by repeat first | with_reducible (first | exact Upd.refl _ _ | assumption | apply Upd.drew | apply Upd.alloc) | refine Upd0.tr ?_ (by with_reducible assumption) | refine UpdW.fin ?_ (by with_reducible assumption) | refine UpdF.fin ?_ (by with_reducible assumption) | refine Upd.setCell ?_ (fun h => absurd h (by first | exact Nat.lt_irrefl _ | (simp only []; omega))) _), Lib.hid (hu4.other (by first | exact hbm.out | exact blk_alloc hbm.out) rfl), Lib.hid (by have := k4.out; simpa [hds, Wr.add] using this)⟩
        case measure => simp [intOf]
      · go_wp2_with (first
          | (go_at_call 31; (with_reducible refine (word_z (w1.heap.size + 1) _ _ ((ex.length + 1)) (by first | rfl | omega | simp) _ (hM.out.to0 (by repeat first | with_reducible (first | exact Upd.refl _ _ | assumption | apply Upd.drew | apply Upd.alloc) | refine Upd0.tr ?_ (by with_reducible assumption) | refine Upd.setCell ?_ (fun h => absurd h (by first | exact Nat.lt_irrefl _ | (simp only []; omega))) _)) (by simp [Wr.add, hds, wd2]) (by omega)).use ?_); rintro v w4 ⟨rfl, hu4, hc4⟩; have k4 := Lib.hid hc4; clear hc4)
          | (with_reducible refine wp_serial (by kernel_rfl) (by kernel_rfl) (by repeat with_reducible (first | apply NoBad.then | apply NoBad.inBlock | apply NoBad.jump | exact NoBad.rets)) ?_) | fail)
        go_roundw
        case rel => exact ⟨4, by omega, by go_num, (by repeat first | with_reducible (first | exact Upd.refl _ _ | assumption | apply Upd.drew | apply Upd.alloc) | refine Upd0.tr ?_ (by with_reducible assumption) | refine UpdW.fin ?_ (by with_reducible assumption) | refine UpdF.fin ?_ (by with_reducible assumption) | refine Upd.setCell ?_ (fun h => absurd h (by first | exact Nat.lt_irrefl _ | (simp only []; omega))) _), Lib.hid (hu4.other (by first | exact hbm.out | exact blk_alloc hbm.out) rfl), Lib.hid (by have := k4.out; simpa [hds, Wr.add] using this)⟩
        case measure => simp [intOf]
    · obtain rfl : i = 4 := by omega
      have e4 : ((4 : Nat) : Int) = 4 := rfl
      rw [e4]
      rw [hS1h.out] at hM
      obtain ⟨m0, m1, m2, m3, m4, m5, m6, m7, m8, m9, mA, mB, mC⟩ := cell13w hbm.out
      have hmlt := blk_lt hbm.out
      go_wp2_with (first | (with_reducible refine wp_serial (by kernel_rfl) (by kernel_rfl) (by repeat with_reducible (first | apply NoBad.then | apply NoBad.inBlock | apply NoBad.jump | exact NoBad.rets)) ?_) | fail)
      go_loopw [9, 82] (fun _ jj wr => ∃ i : Nat, i ≤ qs.length ∧ jj = .int .i64 i ∧ Upd0 w wr ∧ Hid (wr.heap[w.heap.size]? = some (.cells #[.int .i64 (i0 : Nat), .bool re, .int .i64 (o0 : Nat), .bool au, .bool tr, .bool wa, .bool av, .int .i64 (c0 : Nat), .slice q qs.length cq, .slice a an.length ca, .slice n ns.length cn, .slice x ex.length cx, .int .i64 (z0 : Nat)] 25 (0, 0))) ∧ Hid (WrM w.heap.size wr (w1.heap.size + 1) (qusW (qs.take i) ⟨headW ⟨(i0 : Nat), re, (o0 : Nat), au, tr, wa, av, (c0 : Nat), qs, an, ns, ex, (z0 : Nat)⟩, []⟩))) (fun _ jj _ => qs.length - (intOf jj).toNat)
      case atStart => exact ⟨0, Nat.zero_le _, rfl, (by repeat first | with_reducible (first | exact Upd.refl _ _ | assumption | apply Upd.drew | apply Upd.alloc) | refine Upd0.tr ?_ (by with_reducible assumption) | refine UpdW.fin ?_ (by with_reducible assumption) | refine UpdF.fin ?_ (by with_reducible assumption) | refine Upd.setCell ?_ (fun h => absurd h (by first | exact Nat.lt_irrefl _ | (simp only []; omega))) _), Lib.hid hbm.out, Lib.hid (by simpa [qusW] using hM.out)⟩
      case round =>
        clear m0 m1 m2 m3 m4 m5 m6 m7 m8 m9 mA mB mC
        obtain ⟨i, hi, rfl, hu2, hbm2, hM2⟩ := hrel
        obtain ⟨m0, m1, m2, m3, m4, m5, m6, m7, m8, m9, mA, mB, mC⟩ := cell13w hbm2.out
        have hmlt := blk_lt hbm2.out
        by_cases hlt : i < qs.length
        · obtain ⟨y, hx⟩ : ∃ x, qs[i]? = some x := ⟨qs[i], List.getElem?_eq_getElem hlt⟩
          obtain ⟨g, o, rfl, hg, e0, e1⟩ := hh.out.qs.some hx
          have hgw : g < wr.heap.size := Nat.lt_of_lt_of_le hg hu2.size
          have d0 := hu2.cell (fun h => h) e0
          have d1 := hu2.cell (fun h => h) e1
          have hlb : (qusW (qs.take i) ⟨headW ⟨(i0 : Nat), re, (o0 : Nat), au, tr, wa, av, (c0 : Nat), qs, an, ns, ex, (z0 : Nat)⟩, []⟩).b.length ≤ 5000 := by
            have h1 := qus_le (⟨headW ⟨(i0 : Nat), re, (o0 : Nat), au, tr, wa, av, (c0 : Nat), qs, an, ns, ex, (z0 : Nat)⟩, []⟩ : Wr) (all_tk hqoh.out i)
            simp only [hhl, List.length_take] at h1
            omega
          have hyo := all_at hqoh.out hx
          simp only [Qn.ok, Bool.and_eq_true, decide_eq_true_eq] at hyo
          obtain ⟨y1, y2, y3, _⟩ := hyo
          have hsn := Lib.hid (qus_snoc hx ⟨headW ⟨(i0 : Nat), re, (o0 : Nat), au, tr, wa, av, (c0 : Nat), qs, an, ns, ex, (z0 : Nat)⟩, []⟩)
          obtain ⟨S, hS⟩ : ∃ S, qusW (qs.take i) ⟨headW ⟨(i0 : Nat), re, (o0 : Nat), au, tr, wa, av, (c0 : Nat), qs, an, ns, ex, (z0 : Nat)⟩, []⟩ = S := ⟨_, rfl⟩
          rw [hS] at hlb hM2 hsn
          obtain ⟨nm, ty⟩ := y
          simp only [] at d0 d1 y1 y2 y3
          have hnb := nameW_len S y1
          have hn254 := (cut_lab y1).1
          have y1h := Lib.hid y1
          have hty := Lib.hid (show ty = (ty.toNat : Int) by omega)
          clear hx e0 e1 hS y1
          go_wp2_with (first
            | (go_at_call 33; (with_reducible refine (name_w nm y1h.out (w1.heap.size + 1) S _ (hM2.out.to0 (by repeat first | with_reducible (first | exact Upd.refl _ _ | assumption | apply Upd.drew | apply Upd.alloc) | refine Upd0.tr ?_ (by with_reducible assumption) | refine Upd.setCell ?_ (fun h => absurd h (by first | exact Nat.lt_irrefl _ | (simp only []; omega))) _)) (by omega)).use ?_); rintro v w5 ⟨rfl, hu5, hc5⟩; have k5 := Lib.hid hc5; clear hc5; have b5 := Lib.hid (hu5.other (by first | exact hbm2.out | exact blk_alloc hbm2.out) rfl); have bq5 := Lib.hid (show w5.heap[wr.heap.size]? = some (.cells #[.string ⟨nm.toArray⟩, .int .i64 ty] 41 (0, 0)) from hu5.other (by first | exact alloc_last _ _ _ rfl | exact blk_alloc (alloc_last _ _ _ rfl) | exact blk_alloc (blk_alloc (alloc_last _ _ _ rfl))) rfl); obtain ⟨q50, q51⟩ := cell2w bq5.out; have hlq5 := blk_lt bq5.out; have neq5 : ¬ wr.heap.size = w5.heap.size := (by omega); have nfq5 : ¬ w5.heap.size = wr.heap.size := (by omega))
            | (go_at_call 31; (with_reducible refine (word_z (w1.heap.size + 1) (nameW nm S) _ ty.toNat hty.out _ k5.out (by omega) (by omega)).use ?_); rintro v w6 ⟨rfl, hu6, hc6⟩; have k6 := Lib.hid hc6; clear hc6; have b6 := Lib.hid (hu6.other b5.out rfl))
            | (go_at_call 31; (with_reducible refine (word_z (w1.heap.size + 1) ((nameW nm S).add (wd2 ty.toNat)) 1 1 rfl _ k6.out (by simp [Wr.add, wd2]; omega) (by omega)).use ?_); rintro v w7 ⟨rfl, hu7, hc7⟩; have k7 := Lib.hid hc7; clear hc7; have b7 := Lib.hid (hu7.other b6.out rfl))
            | (with_reducible refine wp_serial (by kernel_rfl) (by kernel_rfl) (by repeat with_reducible (first | apply NoBad.then | apply NoBad.inBlock | apply NoBad.jump | exact NoBad.rets)) ?_) | fail)
          go_roundw
          case rel => exact ⟨i + 1, by omega, by go_num, (by repeat first | with_reducible (first | exact Upd.refl _ _ | assumption | apply Upd.drew | apply Upd.alloc) | refine Upd0.tr ?_ (by with_reducible assumption) | refine UpdW.fin ?_ (by with_reducible assumption) | refine UpdF.fin ?_ (by with_reducible assumption) | refine Upd.setCell ?_ (fun h => absurd h (by first | exact Nat.lt_irrefl _ | (simp only []; omega))) _), b7, Lib.hid (by rw [hsn.out]; exact k7.out)⟩
          case measure => simp [intOf]; omega
        · obtain rfl : i = qs.length := by omega
          have hlb : (qusW qs ⟨headW ⟨(i0 : Nat), re, (o0 : Nat), au, tr, wa, av, (c0 : Nat), qs, an, ns, ex, (z0 : Nat)⟩, []⟩).b.length ≤ 5000 := by
            have h1 := qus_le (⟨headW ⟨(i0 : Nat), re, (o0 : Nat), au, tr, wa, av, (c0 : Nat), qs, an, ns, ex, (z0 : Nat)⟩, []⟩ : Wr) hqoh.out
            simp only [hhl] at h1
            omega
          rw [List.take_length] at hM2
          have hEW : encW ⟨(i0 : Nat), re, (o0 : Nat), au, tr, wa, av, (c0 : Nat), qs, an, ns, ex, (z0 : Nat)⟩ = optW ⟨(i0 : Nat), re, (o0 : Nat), au, tr, wa, av, (c0 : Nat), qs, an, ns, ex, (z0 : Nat)⟩ (recsW ex (recsW ns (recsW an (qusW qs ⟨headW ⟨(i0 : Nat), re, (o0 : Nat), au, tr, wa, av, (c0 : Nat), qs, an, ns, ex, (z0 : Nat)⟩, []⟩)))) := rfl
          obtain ⟨S, hS⟩ : ∃ S, qusW qs ⟨headW ⟨(i0 : Nat), re, (o0 : Nat), au, tr, wa, av, (c0 : Nat), qs, an, ns, ex, (z0 : Nat)⟩, []⟩ = S := ⟨_, rfl⟩
          rw [hS] at hlb hM2 hEW
          have hEWh := Lib.hid hEW
          clear hS hEW
          go_wp2_with (first | (with_reducible refine wp_serial (by kernel_rfl) (by kernel_rfl) (by repeat with_reducible (first | apply NoBad.then | apply NoBad.inBlock | apply NoBad.jump | exact NoBad.rets)) ?_) | fail)
          go_loopw [11, 104] (fun _ jj wr => ∃ k : Nat, k ≤ 3 ∧ jj = .int .i64 k ∧ Upd0 w wr ∧ Hid (wr.heap[w.heap.size]? = some (.cells #[.int .i64 (i0 : Nat), .bool re, .int .i64 (o0 : Nat), .bool au, .bool tr, .bool wa, .bool av, .int .i64 (c0 : Nat), .slice q qs.length cq, .slice a an.length ca, .slice n ns.length cn, .slice x ex.length cx, .int .i64 (z0 : Nat)] 25 (0, 0))) ∧ Hid (WrM w.heap.size wr (w1.heap.size + 1) (sk3 S an ns ex k))) (fun _ jj _ => 3 - (intOf jj).toNat)
          case atStart => exact ⟨0, Nat.zero_le _, rfl, (by repeat first | with_reducible (first | exact Upd.refl _ _ | assumption | apply Upd.drew | apply Upd.alloc) | refine Upd0.tr ?_ (by with_reducible assumption) | refine UpdW.fin ?_ (by with_reducible assumption) | refine UpdF.fin ?_ (by with_reducible assumption) | refine Upd.setCell ?_ (fun h => absurd h (by first | exact Nat.lt_irrefl _ | (simp only []; omega))) _), Lib.hid hbm2.out, Lib.hid hM2.out⟩
          case round =>
            clear m0 m1 m2 m3 m4 m5 m6 m7 m8 m9 mA mB mC
            obtain ⟨k, hk, rfl, hu3, hbm3, hM3⟩ := hrel
            by_cases hk3 : k < 3
            · rcases (show k = 0 ∨ k = 1 ∨ k = 2 by omega) with rfl | rfl | rfl
              · have hM4 := Lib.hid (show WrM w.heap.size wr (w1.heap.size + 1) S from hM3.out)
                have hp0 : S.b.length ≤ 5000 := by
                  exact hlb
                obtain ⟨S', hS'⟩ : ∃ S', S = S' := ⟨_, rfl⟩
                have hsk := Lib.hid (show sk3 S an ns ex 1 = recsW an S' by rw [← hS']; rfl)
                rw [hS'] at hM4 hp0
                have eK : ((0 : Nat) : Int) = 0 := rfl
                rw [eK]
                clear hS' hM3
                go_wp2_with (first | (with_reducible refine wp_serial (by kernel_rfl) (by kernel_rfl) (by repeat with_reducible (first | apply NoBad.then | apply NoBad.inBlock | apply NoBad.jump | exact NoBad.rets)) ?_) | fail)
                go_loopw [13, 109] (fun _ jj wr => ∃ i : Nat, i ≤ an.length ∧ jj = .int .i64 i ∧ Upd0 w wr ∧ Hid (wr.heap[w.heap.size]? = some (.cells #[.int .i64 (i0 : Nat), .bool re, .int .i64 (o0 : Nat), .bool au, .bool tr, .bool wa, .bool av, .int .i64 (c0 : Nat), .slice q qs.length cq, .slice a an.length ca, .slice n ns.length cn, .slice x ex.length cx, .int .i64 (z0 : Nat)] 25 (0, 0))) ∧ Hid (WrM w.heap.size wr (w1.heap.size + 1) (recsW (an.take i) S'))) (fun _ jj _ => an.length - (intOf jj).toNat)
                case atStart => exact ⟨0, Nat.zero_le _, rfl, hu3, Lib.hid hbm3.out, Lib.hid (by simpa [recsW] using hM4.out)⟩
                case round =>
                  obtain ⟨i, hi, rfl, hu4, hbm4, hM5⟩ := hrel
                  have hmlt := blk_lt hbm4.out
                  by_cases hlt : i < an.length
                  · obtain ⟨y, hx⟩ : ∃ x, an[i]? = some x := ⟨an[i], List.getElem?_eq_getElem hlt⟩
                    obtain ⟨g, o, rfl, hg, e0, e1, e2, e3⟩ := hh.out.an.some hx
                    have hgw : g < wr.heap.size := Nat.lt_of_lt_of_le hg hu4.size
                    have d0 := hu4.cell (fun h => h) e0
                    have d1 := hu4.cell (fun h => h) e1
                    have d2 := hu4.cell (fun h => h) e2
                    have d3 := hu4.cell (fun h => h) e3
                    have hlb2 : (recsW (an.take i) S').b.length ≤ 3100000 := by
                      have h1 := recs_le S' (all_tk haoh.out i)
                      simp only [List.length_take] at h1
                      omega
                    have hyo := Rc.good (all_at haoh.out hx)
                    have hsn := Lib.hid (recs_snoc hx S')
                    obtain ⟨S2, hS2⟩ : ∃ S2, recsW (an.take i) S' = S2 := ⟨_, rfl⟩
                    rw [hS2] at hlb2 hM5 hsn
                    obtain ⟨nm, ty, tl, d⟩ := y
                    have hnb := nameW_len S2 hyo.nm
                    have hn254 := (cut_lab hyo.nm).1
                    have hty := Lib.hid (show ty = (ty.toNat : Int) by have := hyo.ty.1; simp only [] at this; omega)
                    have hty2 : ty.toNat ≤ 65535 := by have := hyo.ty.2; simp only [] at this; omega
                    have htl := Lib.hid (show tl = (tl.toNat : Int) by have := hyo.tl.1; simp only [] at this; omega)
                    have htl2 : tl.toNat ≤ 2147483647 := by have := hyo.tl.2; simp only [] at this; omega
                    have hyoh := Lib.hid hyo
                    simp only [] at d0 d1 d2 d3 hnb hn254
                    clear hx e0 e1 e2 e3 hS2 hyo
                    go_wp2_with (first
                      | (go_at_call 33; (with_reducible refine (name_w nm hyoh.out.nm (w1.heap.size + 1) S2 _ (hM5.out.to0 (by repeat first | with_reducible (first | exact Upd.refl _ _ | assumption | apply Upd.drew | apply Upd.alloc) | refine Upd0.tr ?_ (by with_reducible assumption) | refine Upd.setCell ?_ (fun h => absurd h (by first | exact Nat.lt_irrefl _ | (simp only []; omega))) _)) (by omega)).use ?_); rintro v w5 ⟨rfl, hu5, hc5⟩; have k5 := Lib.hid hc5; clear hc5; have b5 := Lib.hid (hu5.other (by first | exact hbm4.out | exact blk_alloc hbm4.out) rfl); have br5 := Lib.hid (show w5.heap[wr.heap.size]? = some (.cells #[.string ⟨nm.toArray⟩, .int .i64 ty, .int .i64 tl, .string ⟨d.toArray⟩] 46 (0, 0)) from hu5.other (by first | exact alloc_last _ _ _ rfl | exact blk_alloc (alloc_last _ _ _ rfl) | exact blk_alloc (blk_alloc (alloc_last _ _ _ rfl))) rfl); obtain ⟨r50, r51, r52, r53⟩ := cell4w br5.out; have hlr5 := blk_lt br5.out; have ner5 : ¬ wr.heap.size = w5.heap.size := (by omega); have nfr5 : ¬ w5.heap.size = wr.heap.size := (by omega))
                      | (go_at_call 31; (with_reducible refine (word_z (w1.heap.size + 1) (nameW nm S2) _ ty.toNat hty.out _ k5.out (by omega) (by omega)).use ?_); rintro v w6 ⟨rfl, hu6, hc6⟩; have k6 := Lib.hid hc6; clear hc6; have b6 := Lib.hid (hu6.other b5.out rfl); have br6 := Lib.hid (show w6.heap[wr.heap.size]? = some (.cells #[.string ⟨nm.toArray⟩, .int .i64 ty, .int .i64 tl, .string ⟨d.toArray⟩] 46 (0, 0)) from hu6.other (by first | exact br5.out | exact blk_alloc br5.out | exact blk_alloc (blk_alloc br5.out) | exact blk_alloc (blk_alloc (blk_alloc br5.out))) rfl); obtain ⟨r60, r61, r62, r63⟩ := cell4w br6.out; have hlr6 := blk_lt br6.out; have ner6 : ¬ wr.heap.size = w6.heap.size := (by omega); have nfr6 : ¬ w6.heap.size = wr.heap.size := (by omega))
                      | (go_at_call 31; (with_reducible refine (word_z (w1.heap.size + 1) ((nameW nm S2).add (wd2 ty.toNat)) 1 1 rfl _ k6.out (by simp [Wr.add, wd2]; omega) (by omega)).use ?_); rintro v w7 ⟨rfl, hu7, hc7⟩; have k7 := Lib.hid hc7; clear hc7; have b7 := Lib.hid (hu7.other b6.out rfl); have br7 := Lib.hid (show w7.heap[wr.heap.size]? = some (.cells #[.string ⟨nm.toArray⟩, .int .i64 ty, .int .i64 tl, .string ⟨d.toArray⟩] 46 (0, 0)) from hu7.other (by first | exact br6.out | exact blk_alloc br6.out | exact blk_alloc (blk_alloc br6.out) | exact blk_alloc (blk_alloc (blk_alloc br6.out))) rfl); obtain ⟨r70, r71, r72, r73⟩ := cell4w br7.out; have hlr7 := blk_lt br7.out; have ner7 : ¬ wr.heap.size = w7.heap.size := (by omega); have nfr7 : ¬ w7.heap.size = wr.heap.size := (by omega))
                      | (go_at_call 34; (with_reducible refine (long_z (w1.heap.size + 1) (((nameW nm S2).add (wd2 ty.toNat)).add (wd2 1)) _ tl.toNat htl.out _ k7.out (by simp [Wr.add, wd2]; omega) (by omega)).use ?_); rintro v w8 ⟨rfl, hu8, hc8⟩; have k8 := Lib.hid hc8; clear hc8; have b8 := Lib.hid (hu8.other b7.out rfl); have br8 := Lib.hid (show w8.heap[wr.heap.size]? = some (.cells #[.string ⟨nm.toArray⟩, .int .i64 ty, .int .i64 tl, .string ⟨d.toArray⟩] 46 (0, 0)) from hu8.other (by first | exact br7.out | exact blk_alloc br7.out | exact blk_alloc (blk_alloc br7.out) | exact blk_alloc (blk_alloc (blk_alloc br7.out))) rfl); obtain ⟨r80, r81, r82, r83⟩ := cell4w br8.out; have hlr8 := blk_lt br8.out; have ner8 : ¬ wr.heap.size = w8.heap.size := (by omega); have nfr8 : ¬ w8.heap.size = wr.heap.size := (by omega))
                      | (go_at_call 35; (with_reducible refine (wdata_w (w1.heap.size + 1) ((((nameW nm S2).add (wd2 ty.toNat)).add (wd2 1)).add (w4 tl.toNat)) nm ty tl d _ k8.out (by simp [Wr.add, wd2, w4]; omega) hyoh.out).use ?_); rintro v w9 ⟨rfl, hu9, hc9⟩; have k9 := Lib.hid hc9; clear hc9; have b9 := Lib.hid (hu9.other b8.out rfl))
                      | (with_reducible refine wp_serial (by kernel_rfl) (by kernel_rfl) (by repeat with_reducible (first | apply NoBad.then | apply NoBad.inBlock | apply NoBad.jump | exact NoBad.rets)) ?_) | fail)
                    go_roundw
                    case rel => exact ⟨i + 1, by omega, by go_num, (by repeat first | with_reducible (first | exact Upd.refl _ _ | assumption | apply Upd.drew | apply Upd.alloc) | refine Upd0.tr ?_ (by with_reducible assumption) | refine UpdW.fin ?_ (by with_reducible assumption) | refine UpdF.fin ?_ (by with_reducible assumption) | refine Upd.setCell ?_ (fun h => absurd h (by first | exact Nat.lt_irrefl _ | (simp only []; omega))) _), b9, Lib.hid (by rw [hsn.out]; exact k9.out)⟩
                    case measure => simp [intOf]; omega
                  · obtain rfl : i = an.length := by omega
                    rw [List.take_length, ← hsk.out] at hM5
                    go_wp2_with (first | (with_reducible refine wp_serial (by kernel_rfl) (by kernel_rfl) (by repeat with_reducible (first | apply NoBad.then | apply NoBad.inBlock | apply NoBad.jump | exact NoBad.rets)) ?_) | fail)
                    go_roundw
                    case rel => exact ⟨1, by omega, by go_num, hu4, hbm4, hM5⟩
                    case measure => simp [intOf]
              · have hM4 := Lib.hid (show WrM w.heap.size wr (w1.heap.size + 1) (recsW an S) from hM3.out)
                have hp0 : (recsW an S).b.length ≤ 1005000 := by
                  have h1 := recs_le S haoh.out
                  omega
                obtain ⟨S', hS'⟩ : ∃ S', (recsW an S) = S' := ⟨_, rfl⟩
                have hsk := Lib.hid (show sk3 S an ns ex 2 = recsW ns S' by rw [← hS']; rfl)
                rw [hS'] at hM4 hp0
                have eK : ((1 : Nat) : Int) = 1 := rfl
                rw [eK]
                clear hS' hM3
                go_wp2_with (first | (with_reducible refine wp_serial (by kernel_rfl) (by kernel_rfl) (by repeat with_reducible (first | apply NoBad.then | apply NoBad.inBlock | apply NoBad.jump | exact NoBad.rets)) ?_) | fail)
                go_loopw [13, 109] (fun _ jj wr => ∃ i : Nat, i ≤ ns.length ∧ jj = .int .i64 i ∧ Upd0 w wr ∧ Hid (wr.heap[w.heap.size]? = some (.cells #[.int .i64 (i0 : Nat), .bool re, .int .i64 (o0 : Nat), .bool au, .bool tr, .bool wa, .bool av, .int .i64 (c0 : Nat), .slice q qs.length cq, .slice a an.length ca, .slice n ns.length cn, .slice x ex.length cx, .int .i64 (z0 : Nat)] 25 (0, 0))) ∧ Hid (WrM w.heap.size wr (w1.heap.size + 1) (recsW (ns.take i) S'))) (fun _ jj _ => ns.length - (intOf jj).toNat)
                case atStart => exact ⟨0, Nat.zero_le _, rfl, hu3, Lib.hid hbm3.out, Lib.hid (by simpa [recsW] using hM4.out)⟩
                case round =>
                  obtain ⟨i, hi, rfl, hu4, hbm4, hM5⟩ := hrel
                  have hmlt := blk_lt hbm4.out
                  by_cases hlt : i < ns.length
                  · obtain ⟨y, hx⟩ : ∃ x, ns[i]? = some x := ⟨ns[i], List.getElem?_eq_getElem hlt⟩
                    obtain ⟨g, o, rfl, hg, e0, e1, e2, e3⟩ := hh.out.ns.some hx
                    have hgw : g < wr.heap.size := Nat.lt_of_lt_of_le hg hu4.size
                    have d0 := hu4.cell (fun h => h) e0
                    have d1 := hu4.cell (fun h => h) e1
                    have d2 := hu4.cell (fun h => h) e2
                    have d3 := hu4.cell (fun h => h) e3
                    have hlb2 : (recsW (ns.take i) S').b.length ≤ 3100000 := by
                      have h1 := recs_le S' (all_tk hnoh.out i)
                      simp only [List.length_take] at h1
                      omega
                    have hyo := Rc.good (all_at hnoh.out hx)
                    have hsn := Lib.hid (recs_snoc hx S')
                    obtain ⟨S2, hS2⟩ : ∃ S2, recsW (ns.take i) S' = S2 := ⟨_, rfl⟩
                    rw [hS2] at hlb2 hM5 hsn
                    obtain ⟨nm, ty, tl, d⟩ := y
                    have hnb := nameW_len S2 hyo.nm
                    have hn254 := (cut_lab hyo.nm).1
                    have hty := Lib.hid (show ty = (ty.toNat : Int) by have := hyo.ty.1; simp only [] at this; omega)
                    have hty2 : ty.toNat ≤ 65535 := by have := hyo.ty.2; simp only [] at this; omega
                    have htl := Lib.hid (show tl = (tl.toNat : Int) by have := hyo.tl.1; simp only [] at this; omega)
                    have htl2 : tl.toNat ≤ 2147483647 := by have := hyo.tl.2; simp only [] at this; omega
                    have hyoh := Lib.hid hyo
                    simp only [] at d0 d1 d2 d3 hnb hn254
                    clear hx e0 e1 e2 e3 hS2 hyo
                    go_wp2_with (first
                      | (go_at_call 33; (with_reducible refine (name_w nm hyoh.out.nm (w1.heap.size + 1) S2 _ (hM5.out.to0 (by repeat first | with_reducible (first | exact Upd.refl _ _ | assumption | apply Upd.drew | apply Upd.alloc) | refine Upd0.tr ?_ (by with_reducible assumption) | refine Upd.setCell ?_ (fun h => absurd h (by first | exact Nat.lt_irrefl _ | (simp only []; omega))) _)) (by omega)).use ?_); rintro v w5 ⟨rfl, hu5, hc5⟩; have k5 := Lib.hid hc5; clear hc5; have b5 := Lib.hid (hu5.other (by first | exact hbm4.out | exact blk_alloc hbm4.out) rfl); have br5 := Lib.hid (show w5.heap[wr.heap.size]? = some (.cells #[.string ⟨nm.toArray⟩, .int .i64 ty, .int .i64 tl, .string ⟨d.toArray⟩] 46 (0, 0)) from hu5.other (by first | exact alloc_last _ _ _ rfl | exact blk_alloc (alloc_last _ _ _ rfl) | exact blk_alloc (blk_alloc (alloc_last _ _ _ rfl))) rfl); obtain ⟨r50, r51, r52, r53⟩ := cell4w br5.out; have hlr5 := blk_lt br5.out; have ner5 : ¬ wr.heap.size = w5.heap.size := (by omega); have nfr5 : ¬ w5.heap.size = wr.heap.size := (by omega))
                      | (go_at_call 31; (with_reducible refine (word_z (w1.heap.size + 1) (nameW nm S2) _ ty.toNat hty.out _ k5.out (by omega) (by omega)).use ?_); rintro v w6 ⟨rfl, hu6, hc6⟩; have k6 := Lib.hid hc6; clear hc6; have b6 := Lib.hid (hu6.other b5.out rfl); have br6 := Lib.hid (show w6.heap[wr.heap.size]? = some (.cells #[.string ⟨nm.toArray⟩, .int .i64 ty, .int .i64 tl, .string ⟨d.toArray⟩] 46 (0, 0)) from hu6.other (by first | exact br5.out | exact blk_alloc br5.out | exact blk_alloc (blk_alloc br5.out) | exact blk_alloc (blk_alloc (blk_alloc br5.out))) rfl); obtain ⟨r60, r61, r62, r63⟩ := cell4w br6.out; have hlr6 := blk_lt br6.out; have ner6 : ¬ wr.heap.size = w6.heap.size := (by omega); have nfr6 : ¬ w6.heap.size = wr.heap.size := (by omega))
                      | (go_at_call 31; (with_reducible refine (word_z (w1.heap.size + 1) ((nameW nm S2).add (wd2 ty.toNat)) 1 1 rfl _ k6.out (by simp [Wr.add, wd2]; omega) (by omega)).use ?_); rintro v w7 ⟨rfl, hu7, hc7⟩; have k7 := Lib.hid hc7; clear hc7; have b7 := Lib.hid (hu7.other b6.out rfl); have br7 := Lib.hid (show w7.heap[wr.heap.size]? = some (.cells #[.string ⟨nm.toArray⟩, .int .i64 ty, .int .i64 tl, .string ⟨d.toArray⟩] 46 (0, 0)) from hu7.other (by first | exact br6.out | exact blk_alloc br6.out | exact blk_alloc (blk_alloc br6.out) | exact blk_alloc (blk_alloc (blk_alloc br6.out))) rfl); obtain ⟨r70, r71, r72, r73⟩ := cell4w br7.out; have hlr7 := blk_lt br7.out; have ner7 : ¬ wr.heap.size = w7.heap.size := (by omega); have nfr7 : ¬ w7.heap.size = wr.heap.size := (by omega))
                      | (go_at_call 34; (with_reducible refine (long_z (w1.heap.size + 1) (((nameW nm S2).add (wd2 ty.toNat)).add (wd2 1)) _ tl.toNat htl.out _ k7.out (by simp [Wr.add, wd2]; omega) (by omega)).use ?_); rintro v w8 ⟨rfl, hu8, hc8⟩; have k8 := Lib.hid hc8; clear hc8; have b8 := Lib.hid (hu8.other b7.out rfl); have br8 := Lib.hid (show w8.heap[wr.heap.size]? = some (.cells #[.string ⟨nm.toArray⟩, .int .i64 ty, .int .i64 tl, .string ⟨d.toArray⟩] 46 (0, 0)) from hu8.other (by first | exact br7.out | exact blk_alloc br7.out | exact blk_alloc (blk_alloc br7.out) | exact blk_alloc (blk_alloc (blk_alloc br7.out))) rfl); obtain ⟨r80, r81, r82, r83⟩ := cell4w br8.out; have hlr8 := blk_lt br8.out; have ner8 : ¬ wr.heap.size = w8.heap.size := (by omega); have nfr8 : ¬ w8.heap.size = wr.heap.size := (by omega))
                      | (go_at_call 35; (with_reducible refine (wdata_w (w1.heap.size + 1) ((((nameW nm S2).add (wd2 ty.toNat)).add (wd2 1)).add (w4 tl.toNat)) nm ty tl d _ k8.out (by simp [Wr.add, wd2, w4]; omega) hyoh.out).use ?_); rintro v w9 ⟨rfl, hu9, hc9⟩; have k9 := Lib.hid hc9; clear hc9; have b9 := Lib.hid (hu9.other b8.out rfl))
                      | (with_reducible refine wp_serial (by kernel_rfl) (by kernel_rfl) (by repeat with_reducible (first | apply NoBad.then | apply NoBad.inBlock | apply NoBad.jump | exact NoBad.rets)) ?_) | fail)
                    go_roundw
                    case rel => exact ⟨i + 1, by omega, by go_num, (by repeat first | with_reducible (first | exact Upd.refl _ _ | assumption | apply Upd.drew | apply Upd.alloc) | refine Upd0.tr ?_ (by with_reducible assumption) | refine UpdW.fin ?_ (by with_reducible assumption) | refine UpdF.fin ?_ (by with_reducible assumption) | refine Upd.setCell ?_ (fun h => absurd h (by first | exact Nat.lt_irrefl _ | (simp only []; omega))) _), b9, Lib.hid (by rw [hsn.out]; exact k9.out)⟩
                    case measure => simp [intOf]; omega
                  · obtain rfl : i = ns.length := by omega
                    rw [List.take_length, ← hsk.out] at hM5
                    go_wp2_with (first | (with_reducible refine wp_serial (by kernel_rfl) (by kernel_rfl) (by repeat with_reducible (first | apply NoBad.then | apply NoBad.inBlock | apply NoBad.jump | exact NoBad.rets)) ?_) | fail)
                    go_roundw
                    case rel => exact ⟨2, by omega, by go_num, hu4, hbm4, hM5⟩
                    case measure => simp [intOf]
              · have hM4 := Lib.hid (show WrM w.heap.size wr (w1.heap.size + 1) (recsW ns (recsW an S)) from hM3.out)
                have hp0 : (recsW ns (recsW an S)).b.length ≤ 2005000 := by
                  have h1 := recs_le S haoh.out
                  have h2 := recs_le (recsW an S) hnoh.out
                  omega
                obtain ⟨S', hS'⟩ : ∃ S', (recsW ns (recsW an S)) = S' := ⟨_, rfl⟩
                have hsk := Lib.hid (show sk3 S an ns ex 3 = recsW ex S' by rw [← hS']; rfl)
                rw [hS'] at hM4 hp0
                have eK : ((2 : Nat) : Int) = 2 := rfl
                rw [eK]
                clear hS' hM3
                go_wp2_with (first | (with_reducible refine wp_serial (by kernel_rfl) (by kernel_rfl) (by repeat with_reducible (first | apply NoBad.then | apply NoBad.inBlock | apply NoBad.jump | exact NoBad.rets)) ?_) | fail)
                go_loopw [13, 109] (fun _ jj wr => ∃ i : Nat, i ≤ ex.length ∧ jj = .int .i64 i ∧ Upd0 w wr ∧ Hid (wr.heap[w.heap.size]? = some (.cells #[.int .i64 (i0 : Nat), .bool re, .int .i64 (o0 : Nat), .bool au, .bool tr, .bool wa, .bool av, .int .i64 (c0 : Nat), .slice q qs.length cq, .slice a an.length ca, .slice n ns.length cn, .slice x ex.length cx, .int .i64 (z0 : Nat)] 25 (0, 0))) ∧ Hid (WrM w.heap.size wr (w1.heap.size + 1) (recsW (ex.take i) S'))) (fun _ jj _ => ex.length - (intOf jj).toNat)
                case atStart => exact ⟨0, Nat.zero_le _, rfl, hu3, Lib.hid hbm3.out, Lib.hid (by simpa [recsW] using hM4.out)⟩
                case round =>
                  obtain ⟨i, hi, rfl, hu4, hbm4, hM5⟩ := hrel
                  have hmlt := blk_lt hbm4.out
                  by_cases hlt : i < ex.length
                  · obtain ⟨y, hx⟩ : ∃ x, ex[i]? = some x := ⟨ex[i], List.getElem?_eq_getElem hlt⟩
                    obtain ⟨g, o, rfl, hg, e0, e1, e2, e3⟩ := hh.out.ex.some hx
                    have hgw : g < wr.heap.size := Nat.lt_of_lt_of_le hg hu4.size
                    have d0 := hu4.cell (fun h => h) e0
                    have d1 := hu4.cell (fun h => h) e1
                    have d2 := hu4.cell (fun h => h) e2
                    have d3 := hu4.cell (fun h => h) e3
                    have hlb2 : (recsW (ex.take i) S').b.length ≤ 3100000 := by
                      have h1 := recs_le S' (all_tk hxoh.out i)
                      simp only [List.length_take] at h1
                      omega
                    have hyo := Rc.good (all_at hxoh.out hx)
                    have hsn := Lib.hid (recs_snoc hx S')
                    obtain ⟨S2, hS2⟩ : ∃ S2, recsW (ex.take i) S' = S2 := ⟨_, rfl⟩
                    rw [hS2] at hlb2 hM5 hsn
                    obtain ⟨nm, ty, tl, d⟩ := y
                    have hnb := nameW_len S2 hyo.nm
                    have hn254 := (cut_lab hyo.nm).1
                    have hty := Lib.hid (show ty = (ty.toNat : Int) by have := hyo.ty.1; simp only [] at this; omega)
                    have hty2 : ty.toNat ≤ 65535 := by have := hyo.ty.2; simp only [] at this; omega
                    have htl := Lib.hid (show tl = (tl.toNat : Int) by have := hyo.tl.1; simp only [] at this; omega)
                    have htl2 : tl.toNat ≤ 2147483647 := by have := hyo.tl.2; simp only [] at this; omega
                    have hyoh := Lib.hid hyo
                    simp only [] at d0 d1 d2 d3 hnb hn254
                    clear hx e0 e1 e2 e3 hS2 hyo
                    go_wp2_with (first
                      | (go_at_call 33; (with_reducible refine (name_w nm hyoh.out.nm (w1.heap.size + 1) S2 _ (hM5.out.to0 (by repeat first | with_reducible (first | exact Upd.refl _ _ | assumption | apply Upd.drew | apply Upd.alloc) | refine Upd0.tr ?_ (by with_reducible assumption) | refine Upd.setCell ?_ (fun h => absurd h (by first | exact Nat.lt_irrefl _ | (simp only []; omega))) _)) (by omega)).use ?_); rintro v w5 ⟨rfl, hu5, hc5⟩; have k5 := Lib.hid hc5; clear hc5; have b5 := Lib.hid (hu5.other (by first | exact hbm4.out | exact blk_alloc hbm4.out) rfl); have br5 := Lib.hid (show w5.heap[wr.heap.size]? = some (.cells #[.string ⟨nm.toArray⟩, .int .i64 ty, .int .i64 tl, .string ⟨d.toArray⟩] 46 (0, 0)) from hu5.other (by first | exact alloc_last _ _ _ rfl | exact blk_alloc (alloc_last _ _ _ rfl) | exact blk_alloc (blk_alloc (alloc_last _ _ _ rfl))) rfl); obtain ⟨r50, r51, r52, r53⟩ := cell4w br5.out; have hlr5 := blk_lt br5.out; have ner5 : ¬ wr.heap.size = w5.heap.size := (by omega); have nfr5 : ¬ w5.heap.size = wr.heap.size := (by omega))
                      | (go_at_call 31; (with_reducible refine (word_z (w1.heap.size + 1) (nameW nm S2) _ ty.toNat hty.out _ k5.out (by omega) (by omega)).use ?_); rintro v w6 ⟨rfl, hu6, hc6⟩; have k6 := Lib.hid hc6; clear hc6; have b6 := Lib.hid (hu6.other b5.out rfl); have br6 := Lib.hid (show w6.heap[wr.heap.size]? = some (.cells #[.string ⟨nm.toArray⟩, .int .i64 ty, .int .i64 tl, .string ⟨d.toArray⟩] 46 (0, 0)) from hu6.other (by first | exact br5.out | exact blk_alloc br5.out | exact blk_alloc (blk_alloc br5.out) | exact blk_alloc (blk_alloc (blk_alloc br5.out))) rfl); obtain ⟨r60, r61, r62, r63⟩ := cell4w br6.out; have hlr6 := blk_lt br6.out; have ner6 : ¬ wr.heap.size = w6.heap.size := (by omega); have nfr6 : ¬ w6.heap.size = wr.heap.size := (by omega))
                      | (go_at_call 31; (with_reducible refine (word_z (w1.heap.size + 1) ((nameW nm S2).add (wd2 ty.toNat)) 1 1 rfl _ k6.out (by simp [Wr.add, wd2]; omega) (by omega)).use ?_); rintro v w7 ⟨rfl, hu7, hc7⟩; have k7 := Lib.hid hc7; clear hc7; have b7 := Lib.hid (hu7.other b6.out rfl); have br7 := Lib.hid (show w7.heap[wr.heap.size]? = some (.cells #[.string ⟨nm.toArray⟩, .int .i64 ty, .int .i64 tl, .string ⟨d.toArray⟩] 46 (0, 0)) from hu7.other (by first | exact br6.out | exact blk_alloc br6.out | exact blk_alloc (blk_alloc br6.out) | exact blk_alloc (blk_alloc (blk_alloc br6.out))) rfl); obtain ⟨r70, r71, r72, r73⟩ := cell4w br7.out; have hlr7 := blk_lt br7.out; have ner7 : ¬ wr.heap.size = w7.heap.size := (by omega); have nfr7 : ¬ w7.heap.size = wr.heap.size := (by omega))
                      | (go_at_call 34; (with_reducible refine (long_z (w1.heap.size + 1) (((nameW nm S2).add (wd2 ty.toNat)).add (wd2 1)) _ tl.toNat htl.out _ k7.out (by simp [Wr.add, wd2]; omega) (by omega)).use ?_); rintro v w8 ⟨rfl, hu8, hc8⟩; have k8 := Lib.hid hc8; clear hc8; have b8 := Lib.hid (hu8.other b7.out rfl); have br8 := Lib.hid (show w8.heap[wr.heap.size]? = some (.cells #[.string ⟨nm.toArray⟩, .int .i64 ty, .int .i64 tl, .string ⟨d.toArray⟩] 46 (0, 0)) from hu8.other (by first | exact br7.out | exact blk_alloc br7.out | exact blk_alloc (blk_alloc br7.out) | exact blk_alloc (blk_alloc (blk_alloc br7.out))) rfl); obtain ⟨r80, r81, r82, r83⟩ := cell4w br8.out; have hlr8 := blk_lt br8.out; have ner8 : ¬ wr.heap.size = w8.heap.size := (by omega); have nfr8 : ¬ w8.heap.size = wr.heap.size := (by omega))
                      | (go_at_call 35; (with_reducible refine (wdata_w (w1.heap.size + 1) ((((nameW nm S2).add (wd2 ty.toNat)).add (wd2 1)).add (w4 tl.toNat)) nm ty tl d _ k8.out (by simp [Wr.add, wd2, w4]; omega) hyoh.out).use ?_); rintro v w9 ⟨rfl, hu9, hc9⟩; have k9 := Lib.hid hc9; clear hc9; have b9 := Lib.hid (hu9.other b8.out rfl))
                      | (with_reducible refine wp_serial (by kernel_rfl) (by kernel_rfl) (by repeat with_reducible (first | apply NoBad.then | apply NoBad.inBlock | apply NoBad.jump | exact NoBad.rets)) ?_) | fail)
                    go_roundw
                    case rel => exact ⟨i + 1, by omega, by go_num, (by repeat first | with_reducible (first | exact Upd.refl _ _ | assumption | apply Upd.drew | apply Upd.alloc) | refine Upd0.tr ?_ (by with_reducible assumption) | refine UpdW.fin ?_ (by with_reducible assumption) | refine UpdF.fin ?_ (by with_reducible assumption) | refine Upd.setCell ?_ (fun h => absurd h (by first | exact Nat.lt_irrefl _ | (simp only []; omega))) _), b9, Lib.hid (by rw [hsn.out]; exact k9.out)⟩
                    case measure => simp [intOf]; omega
                  · obtain rfl : i = ex.length := by omega
                    rw [List.take_length, ← hsk.out] at hM5
                    go_wp2_with (first | (with_reducible refine wp_serial (by kernel_rfl) (by kernel_rfl) (by repeat with_reducible (first | apply NoBad.then | apply NoBad.inBlock | apply NoBad.jump | exact NoBad.rets)) ?_) | fail)
                    go_roundw
                    case rel => exact ⟨3, by omega, by go_num, hu4, hbm4, hM5⟩
                    case measure => simp [intOf]
            · obtain rfl : k = 3 := by omega
              have h1 := recs_le S haoh.out
              have h2 := recs_le (recsW an S) hnoh.out
              have h3 := recs_le (recsW ns (recsW an S)) hxoh.out
              have hM4 := Lib.hid (show WrM w.heap.size wr (w1.heap.size + 1) (recsW ex (recsW ns (recsW an S))) from hM3.out)
              clear hM3
              obtain ⟨m0, m1, m2, m3, m4, m5, m6, m7, m8, m9, mA, mB, mC⟩ := cell13w hbm3.out
              have hmlt := blk_lt hbm3.out
              obtain ⟨F, hF⟩ : ∃ F, (recsW ex (recsW ns (recsW an S))) = F := ⟨_, rfl⟩
              rw [hF] at hM4 h3
              have hG : encW ⟨(i0 : Nat), re, (o0 : Nat), au, tr, wa, av, (c0 : Nat), qs, an, ns, ex, (z0 : Nat)⟩ = ((((F.add [0]).add (wd2 41)).add (wd2 z0)).add (w4 0)).add (wd2 0) := by
                rw [hEWh.out, hF, optW, if_neg hzn]
                simp [Wr.add]
              have hGh := Lib.hid hG
              clear hG hF hEWh
              obtain ⟨G, hGd⟩ : ∃ G, ((((F.add [0]).add (wd2 41)).add (wd2 z0)).add (w4 0)).add (wd2 0) = G := ⟨_, rfl⟩
              rw [hGd] at hGh
              have hGdh := Lib.hid hGd
              clear hGd
              go_upto_region 38 with (first
                | (go_at_call 33; (with_reducible refine (name_e (w1.heap.size + 1) F _ hM4.out (by omega)).use ?_); rintro v w5 ⟨rfl, hu5, hc5⟩; have k5 := Lib.hid hc5; clear hc5; have bm5 := Lib.hid (show w5.heap[w.heap.size]? = some (.cells #[.int .i64 (i0 : Nat), .bool re, .int .i64 (o0 : Nat), .bool au, .bool tr, .bool wa, .bool av, .int .i64 (c0 : Nat), .slice q qs.length cq, .slice a an.length ca, .slice n ns.length cn, .slice x ex.length cx, .int .i64 (z0 : Nat)] 25 (0, 0)) from hu5.other hbm3.out rfl); obtain ⟨m50, m51, m52, m53, m54, m55, m56, m57, m58, m59, m510, m511, m512⟩ := cell13w bm5.out; have hlm5 := blk_lt bm5.out; have nem5 : ¬ w.heap.size = w5.heap.size := (by omega); have nfm5 : ¬ w5.heap.size = w.heap.size := (by omega))
                | (go_at_call 31; (with_reducible refine (word_z (w1.heap.size + 1) (F.add [0]) 41 41 rfl _ k5.out (by simp [Wr.add]; omega) (by omega)).use ?_); rintro v w6 ⟨rfl, hu6, hc6⟩; have k6 := Lib.hid hc6; clear hc6; have bm6 := Lib.hid (show w6.heap[w.heap.size]? = some (.cells #[.int .i64 (i0 : Nat), .bool re, .int .i64 (o0 : Nat), .bool au, .bool tr, .bool wa, .bool av, .int .i64 (c0 : Nat), .slice q qs.length cq, .slice a an.length ca, .slice n ns.length cn, .slice x ex.length cx, .int .i64 (z0 : Nat)] 25 (0, 0)) from hu6.other (by first | exact bm5.out | exact blk_alloc bm5.out | exact blk_alloc (blk_alloc bm5.out) | exact blk_alloc (blk_alloc (blk_alloc bm5.out))) rfl); obtain ⟨m60, m61, m62, m63, m64, m65, m66, m67, m68, m69, m610, m611, m612⟩ := cell13w bm6.out; have hlm6 := blk_lt bm6.out; have nem6 : ¬ w.heap.size = w6.heap.size := (by omega); have nfm6 : ¬ w6.heap.size = w.heap.size := (by omega))
                | (go_at_call 31; (with_reducible refine (word_z (w1.heap.size + 1) ((F.add [0]).add (wd2 41)) _ z0 rfl _ k6.out (by simp [Wr.add, wd2]; omega) (by omega)).use ?_); rintro v w7 ⟨rfl, hu7, hc7⟩; have k7 := Lib.hid hc7; clear hc7)
                | (go_at_call 34; (with_reducible refine (long_z (w1.heap.size + 1) (((F.add [0]).add (wd2 41)).add (wd2 z0)) 0 0 rfl _ k7.out (by simp [Wr.add, wd2]; omega) (by omega)).use ?_); rintro v w8 ⟨rfl, hu8, hc8⟩; have k8 := Lib.hid hc8; clear hc8)
                | (go_at_call 31; (with_reducible refine (word_z (w1.heap.size + 1) ((((F.add [0]).add (wd2 41)).add (wd2 z0)).add (w4 0)) 0 0 rfl _ k8.out (by simp [Wr.add, wd2, w4]; omega) (by omega)).use ?_); rintro v w9 ⟨rfl, hu9, hc9⟩; rw [hGdh.out] at hc9; obtain ⟨hok9, v9, mb9, nn9, D9, hI9⟩ := hc9; obtain ⟨ao9, cap9, rfl⟩ := hI9.row.isSlice; obtain ⟨c90, c91, c92⟩ := two_w hI9.blk; have hI9h := Lib.hid hI9; clear hI9)
                | (with_reducible refine wp_serial (by kernel_rfl) (by kernel_rfl) (by repeat with_reducible (first | apply NoBad.then | apply NoBad.inBlock | apply NoBad.jump | exact NoBad.rets)) ?_) | fail)
              by_cases hbig : G.b.length ≤ 65535
              · have hbig2 : ¬ (65535 : Int) < G.b.length := by omega
                go_wp2_with (first
                  | (refine wpList_ofB rfl (.tmp 156) 38 9 rfl 5 Try.underlying38 Try.underlying5 Try.underlying9 rfl hI9h.out.row ?_)
                  | (with_reducible refine wp_serial (by kernel_rfl) (by kernel_rfl) (by repeat with_reducible (first | apply NoBad.then | apply NoBad.inBlock | apply NoBad.jump | exact NoBad.rets)) ?_) | fail)
                all_goals go_returns
                all_goals exact ⟨by rw [hESh.out, hECh.out, hGh.out, if_pos hbig]; rfl, (by repeat first | with_reducible (first | exact Upd.refl _ _ | assumption | apply Upd.drew | apply Upd.alloc) | refine Upd0.tr ?_ (by with_reducible assumption) | refine UpdW.fin ?_ (by with_reducible assumption) | refine UpdF.fin ?_ (by with_reducible assumption) | refine Upd.setCell ?_ (fun h => absurd h (by first | exact Nat.lt_irrefl _ | (simp only []; omega))) _)⟩
              · have hbig2 : (65535 : Int) < G.b.length := by omega
                go_wp2_with (first | (with_reducible refine wp_serial (by kernel_rfl) (by kernel_rfl) (by repeat with_reducible (first | apply NoBad.then | apply NoBad.inBlock | apply NoBad.jump | exact NoBad.rets)) ?_) | fail)
                all_goals go_returns
                all_goals exact ⟨by rw [hESh.out, hECh.out, hGh.out, if_neg hbig]; rfl, (by repeat first | with_reducible (first | exact Upd.refl _ _ | assumption | apply Upd.drew | apply Upd.alloc) | refine Upd0.tr ?_ (by with_reducible assumption) | refine UpdW.fin ?_ (by with_reducible assumption) | refine UpdF.fin ?_ (by with_reducible assumption) | refine Upd.setCell ?_ (fun h => absurd h (by first | exact Nat.lt_irrefl _ | (simp only []; omega))) _)⟩
end Go.Proofs.Ytgdejgfmhndbhaa
