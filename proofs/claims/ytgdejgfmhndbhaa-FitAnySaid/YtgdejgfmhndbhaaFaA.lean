/-
  The document's Fit of any message.
-/
import Derived.Test.YtgdejgfmhndbhaaRfF
import Derived.Test.YtgdejgfmhndbhaaCpO
import Derived.Test.YtgdejgfmhndbhaaFtX
import Derived.Great.BuildSlice
namespace Go.Proofs.Ytgdejgfmhndbhaa
open Go.RowKit Go.Maps
set_option linter.unusedSimpArgs false
set_option linter.unusedVariables false
theorem own_le {w : World} {B : Nat} {e : TypeId} {s n cap : Nat} {ao : Option Addr} {xs : List Value} (h : w.ownsRow B e s (.slice ao n cap) n xs) : n ≤ cap := by
  rcases h.2 with ⟨h, h2⟩ | ⟨g', cp, cur, hv, _, _, h2, _⟩
  · omega
  · injection hv with _ _ h5; omega
theorem fa_row {W wF : World} {b : Nat} {c cs : Array Value} {T : TypeId} (h : W.heap[b]? = some (.cells c T (0, 0))) (hw : W.setRow b cs = wF) : wF.heap[b]? = some (.cells cs T (0, 0)) ∧ Upd (fun k => k = b) W wF := by
  subst hw; exact ⟨setRow_heap W b _ cs T (0, 0) h, (Upd.refl (fun k => k = b) W).setRow (g := b) (fun _ => rfl) cs⟩
/-- what is still to be tried: fewer than k of the further records, or none of any -/
def fitJ (m : Msg) (limit : Int) : Nat → Option Msg
  | 0 => if fits m.cut limit then some m.cut else none
  | n + 1 => if fits (m.tk n) limit then some (m.tk n) else fitJ m limit n
theorem fitJ_eq (m : Msg) (limit : Int) : ∀ n, fitN m limit n = fitJ m limit (n + 1)
  | 0 => by rw [fitN, fitJ, fitJ]
  | n + 1 => by rw [fitN, fitJ, fitJ_eq m limit n]
theorem fitJ_hit {m : Msg} {limit : Int} {k : Nat} (h : fits (m.tk k) limit = true) : fitJ m limit (k + 1) = some (m.tk k) := by rw [fitJ, if_pos h]
theorem fitJ_less {m : Msg} {limit : Int} {k : Nat} (h : fits (m.tk k) limit = false) : fitJ m limit (k + 1) = fitJ m limit k := by rw [fitJ, if_neg (by rw [h]; decide)]
theorem msr_tk {W : World} {m : Msg} {q a n x : Option Addr} (h : MsR W m q a n x) (j : Nat) : MsR W (m.tk j) q a n x := ⟨h.qs, h.an, h.ns, h.ex.takeR j⟩
theorem msr_cut {W : World} {m : Msg} {q a n x : Option Addr} (h : MsR W m q a n x) : MsR W m.cut q none none none := ⟨h.qs, .inl rfl, .inl rfl, .inl rfl⟩
theorem fits_no1 {m : Msg} {limit : Int} (h : ¬ encC m = 0) : fits m limit = false := by rw [fits, decide_eq_false h]; rfl
theorem fits_no2 {m : Msg} {limit : Int} (h : ¬ ((encS m).length : Int) ≤ limit) : fits m limit = false := by rw [fits, decide_eq_false h, Bool.and_false]
theorem fits_yes {m : Msg} {limit : Int} (h1 : encC m = 0) (h2 : ((encS m).length : Int) ≤ limit) : fits m limit = true := by rw [fits, decide_eq_true h1, decide_eq_true h2]; rfl
theorem fa_found {m M : Msg} {limit : Int} (hO : fitO m limit = true) (h : fitN m limit m.ex.length = some M) : fitM m limit = M ∧ fitS m limit = encS M ∧ fitC m limit = 0 := by
  have e : fitR m limit = some M := by rw [fitR, if_pos hO, h]
  exact ⟨by rw [fitM, e]; rfl, by rw [fitS, e], by rw [fitC, if_pos hO, h]; rfl⟩
theorem fa_none {m : Msg} {limit : Int} (hO : fitO m limit = true) (h : fitN m limit m.ex.length = none) : fitM m limit = msgZ ∧ fitS m limit = [] ∧ fitC m limit = 4 := by
  have e : fitR m limit = none := by rw [fitR, if_pos hO, h]
  exact ⟨by rw [fitM, e]; rfl, by rw [fitS, e], by rw [fitC, if_pos hO, h]; rfl⟩
theorem fa_upd {w w3 wF : World} {b : Nat} (h1 : Upd0 w w3) (h2 : Upd (fun k => k = b) w3 wF) (hb : w.heap.size ≤ b) : Upd0 w wF := Upd.trans (S := fun _ => False) h1 h2 (fun n hn e => by omega)
theorem fa_ms {w2 w3 wF : World} {b : Nat} {m : Msg} {q a n x : Option Addr} (hR : MsR w2 m q a n x) (h1 : Upd0 w2 w3) (h2 : Upd (fun k => k = b) w3 wF) {c : Array Value} (hb : w3.heap[b]? = some (.cells c 25 (0, 0))) (hq : ∀ g o, (q = some ⟨g, o, none⟩ ∨ a = some ⟨g, o, none⟩ ∨ n = some ⟨g, o, none⟩ ∨ x = some ⟨g, o, none⟩) → g ≠ b) : MsR wF m q a n x :=
  have h := hR.up h1
  ⟨h.qs.upB h2 (fun g o e hs => hq g o (.inl e) hs), h.an.upB h2 (fun g o e hs => hq g o (.inr (.inl e)) hs), h.ns.upB h2 (fun g o e hs => hq g o (.inr (.inr (.inl e))) hs), h.ex.upB h2 (fun g o e hs => hq g o (.inr (.inr (.inr e))) hs)⟩
def FitQ (m : Msg) (limit : Int) (w : World) (r : Value) (w' : World) : Prop := ∃ q' a' n' x' cq' ca' cn' cx', r = .tuple #[(fitM m limit).val q' a' n' x' cq' ca' cn' cx', .string ⟨(fitS m limit).toArray⟩, .int .i64 (fitC m limit)] ∧ MsR w' (fitM m limit) q' a' n' x' ∧ Upd0 w w'
set_option maxRecDepth 100000 in
set_option maxHeartbeats 8000000 in
theorem rfit_no (m : Msg) (limit : Int) (q a n x : Option Addr) (cq ca cn cx : Nat) (w : World) (h : MsR w m q a n x) (hm : Mid m) (hO : fitO m limit = false) :
    Calls Try.prog 30 #[m.val q a n x cq ca cn cx, .int .i64 limit] w (Rets fun r w' => r = .tuple #[msgZ.val none none none none 0 0 0 0, .string ⟨#[]⟩, .int .i64 1] ∧ Upd0 w w') := by
  have hC := Lib.hid (fun w' (k : Upd0 w w') => rcheckm_w m q a n x cq ca cn cx w' (h.up k) hm)
  have hcase : (∃ c : Int, msgC m = c ∧ (c != 0) = true) ∨ (msgC m = 0 ∧ limit < 1) ∨ (msgC m = 0 ∧ ¬ limit < 1 ∧ 65535 < limit) := by
    unfold fitO at hO
    cases hB : msgB m with
    | false => exact .inl ⟨1, by rw [msgC, hB]; rfl, rfl⟩
    | true =>
      rw [hB, Bool.true_and] at hO
      have h0 : msgC m = 0 := by rw [msgC, hB]; rfl
      have : ¬ (1 ≤ limit ∧ limit ≤ 65535) := fun hh => by rw [decide_eq_true hh.1, decide_eq_true hh.2] at hO; cases hO
      right
      by_cases h1 : limit < 1
      · exact .inl ⟨h0, h1⟩
      · exact .inr ⟨h0, h1, by omega⟩
  clear h hm hO
  obtain ⟨c, hc⟩ : ∃ c, msgC m = c := ⟨_, rfl⟩
  rw [hc] at hC
  simp only [hc] at hcase
  clear hc
  obtain ⟨id, re, op, au, tr, wa, av, rc, qs, an, ns, ex, sz⟩ := m
  simp only [Msg.val, msgZ] at hC ⊢
  rcases hcase with ⟨c2, rfl, h1⟩ | ⟨rfl, h1⟩ | ⟨rfl, h1, h2⟩
  all_goals
    go_enter Try.func30, Try.ntmps30
    go_wp2_with (first
      | ((show Go.bodyPost _ _ _ Go.Exit.ret _ _); refine bodyPost_ret (res_msg Try.results30 rfl hfinh.out) rfl ?_)
      | ((show Go.wpList _ _ _ (Go.Oper.mk _ (Go.Op.store _ (Go.Operand.tmp 4) _) _ _ _ _ :: _) _ _); with_reducible refine wpList_store_rowTo rfl 25 (.tmp 4) (.tmp 25) rfl rfl (w.heap.size + 1) #[.int .i64 0, .bool false, .int .i64 0, .bool false, .bool false, .bool false, .bool false, .int .i64 0, .slice none 0 0, .slice none 0 0, .slice none 0 0, .slice none 0 0, .int .i64 0] rfl rfl 25 _ bz1.out (by kernel_rfl) (by kernel_rfl) (by kernel_rfl) ?_; generalize hwF : World.setRow _ _ _ = wF; obtain ⟨hfin, hup⟩ := fa_row bz1.out hwF; clear hwF; have hfinh := Lib.hid hfin; have huph := Lib.hid hup; clear hfin hup)
      | (go_at_call 21; (with_reducible refine (hC.out _ (by repeat first | with_reducible (first | exact Upd.refl _ _ | assumption | apply Upd.drew | apply Upd.alloc) | refine Upd0.tr ?_ (by with_reducible assumption) | refine Upd.setCell ?_ (fun h => absurd h (by first | exact Nat.lt_irrefl _ | (simp only []; omega))) _)).use ?_); rintro v w1 ⟨rfl, hu1⟩; have bz1 := Lib.hid (show w1.heap[w.heap.size + 1]? = some (.cells #[.int .i64 0, .bool false, .int .i64 0, .bool false, .bool false, .bool false, .bool false, .int .i64 0, .slice none 0 0, .slice none 0 0, .slice none 0 0, .slice none 0 0, .int .i64 0] 25 (0, 0)) from hu1.block (fun h => h) (alloc_last _ _ _ (by simp))))
      | (with_reducible refine wp_serial (by kernel_rfl) (by kernel_rfl) (by repeat with_reducible (first | apply NoBad.then | apply NoBad.inBlock | apply NoBad.jump | exact NoBad.rets)) ?_) | fail)
    all_goals exact ⟨rfl, fa_upd (show Upd0 w w1 from (by repeat first | with_reducible (first | exact Upd.refl _ _ | assumption | apply Upd.drew | apply Upd.alloc) | refine Upd0.tr ?_ (by with_reducible assumption) | refine Upd.setCell ?_ (fun h => absurd h (by first | exact Nat.lt_irrefl _ | (simp only []; omega))) _)) huph.out (by omega)⟩
set_option maxRecDepth 100000 in
set_option maxHeartbeats 16000000 in
theorem rfit_yes (m : Msg) (limit : Int) (q a n x : Option Addr) (cq ca cn cx : Nat) (w : World) (h : MsR w m q a n x) (hm : Mid m) (hO : fitO m limit = true) :
    Calls Try.prog 30 #[m.val q a n x cq ca cn cx, .int .i64 limit] w (Rets fun r w' => FitQ m limit w r w') := by
  have hO2 := hO
  simp only [fitO, Bool.and_eq_true, decide_eq_true_eq] at hO2
  obtain ⟨hB, l1, l2⟩ := hO2
  have n1 : ¬ limit < 1 := by omega
  have n2 : ¬ 65535 < limit := by omega
  have hC := Lib.hid (show ∀ w', Upd0 w w' → Calls Try.prog 21 #[m.val q a n x cq ca cn cx] w' (Rets fun r w'' => r = .int .i64 0 ∧ Upd0 w' w'') from fun w' k => by
    have := rcheckm_w m q a n x cq ca cn cx w' (h.up k) hm
    rw [msgC, hB] at this
    exact this)
  have hCp := Lib.hid (fun (w' : World) (u : Upd0 w w') => copy_o m q a n x cq ca cn cx w' (h.up u) hm)
  have hE := Lib.hid (fun (j : Nat) (hj : j ≤ m.ex.length) (q' a' n' x' : Option Addr) (cq' ca' cn' cx' : Nat) (w' : World) (k : MsR w' (m.tk j) q' a' n' x') =>
    (show Calls Try.prog 19 #[.agg #[.int .i64 m.id, .bool m.re, .int .i64 m.op, .bool m.au, .bool m.tr, .bool m.wa, .bool m.av, .int .i64 m.rc, .slice q' m.qs.length cq', .slice a' m.an.length ca', .slice n' m.ns.length cn', .slice x' j cx', .int .i64 m.sz]] w' (Rets fun r w'' => r = .tuple #[.string ⟨(encS (m.tk j)).toArray⟩, .int .i64 (encC (m.tk j))] ∧ Upd0 w' w'') from by
      have h2 : (m.tk j).val q' a' n' x' cq' ca' cn' cx' = .agg #[.int .i64 m.id, .bool m.re, .int .i64 m.op, .bool m.au, .bool m.tr, .bool m.wa, .bool m.av, .int .i64 m.rc, .slice q' m.qs.length cq', .slice a' m.an.length ca', .slice n' m.ns.length cn', .slice x' j cx', .int .i64 m.sz] := by
        simp only [Msg.val, Msg.tk, List.length_take, Nat.min_eq_left hj]
      rw [← h2]
      exact rencode_w (m.tk j) q' a' n' x' cq' ca' cn' cx' w' k (mid_tk hm j)))
  have hEc := Lib.hid (fun (q' : Option Addr) (cq' : Nat) (w' : World) (k : MsR w' m.cut q' none none none) =>
    (show Calls Try.prog 19 #[.agg #[.int .i64 m.id, .bool m.re, .int .i64 m.op, .bool m.au, .bool true, .bool m.wa, .bool m.av, .int .i64 m.rc, .slice q' m.qs.length cq', .slice none 0 0, .slice none 0 0, .slice none 0 0, .int .i64 m.sz]] w' (Rets fun r w'' => r = .tuple #[.string ⟨(encS m.cut).toArray⟩, .int .i64 (encC m.cut)] ∧ Upd0 w' w'') from
      rencode_w m.cut q' none none none cq' 0 0 0 w' k (mid_cut hm)))
  have hOh := Lib.hid hO
  have l4 := hm.ex.1
  clear h hm hO hB l1 l2
  obtain ⟨id, re, op, au, tr, wa, av, rc, qs, an, ns, ex, sz⟩ := m
  simp only [] at hC hCp hE hEc hOh l4
  simp only [Msg.val] at hC hCp ⊢
  go_enter Try.func30, Try.ntmps30
  go_wp2_with (first
    | (go_at_call 21; (with_reducible refine (hC.out _ (by repeat first | with_reducible (first | exact Upd.refl _ _ | assumption | apply Upd.drew | apply Upd.alloc) | refine Upd0.tr ?_ (by with_reducible assumption) | refine Upd.setCell ?_ (fun h => absurd h (by first | exact Nat.lt_irrefl _ | (simp only []; omega))) _)).use ?_); rintro v w1 ⟨rfl, hu1⟩; have X1 := Lib.hid (show w1.heap[w.heap.size]? = some (.cells #[.int .i64 id, .bool re, .int .i64 op, .bool au, .bool tr, .bool wa, .bool av, .int .i64 rc, .slice q qs.length cq, .slice a an.length ca, .slice n ns.length cn, .slice x ex.length cx, .int .i64 sz] 25 (0, 0)) from hu1.block (fun h => h) (blk_alloc (alloc_last _ _ _ rfl))); have Y1 := Lib.hid (show w1.heap[w.heap.size + 1]? = some (.cells #[.int .i64 0, .bool false, .int .i64 0, .bool false, .bool false, .bool false, .bool false, .int .i64 0, .slice none 0 0, .slice none 0 0, .slice none 0 0, .slice none 0 0, .int .i64 0] 25 (0, 0)) from hu1.block (fun h => h) (alloc_last _ _ _ (by simp))); obtain ⟨mw0, mw1, mw2, mw3, mw4, mw5, mw6, mw7, mw8, mw9, mwA, mwB, mwC⟩ := cell13w X1.out; have hlmw := blk_lt X1.out; have fmw := fun i => blk_frz X1.out i)
    | (with_reducible refine wp_serial (by kernel_rfl) (by kernel_rfl) (by repeat with_reducible (first | apply NoBad.then | apply NoBad.inBlock | apply NoBad.jump | exact NoBad.rets)) ?_) | fail)
  go_loopw [7] (fun nv wr => ∃ k : Nat, k ≤ ex.length + 1 ∧ nv = .int .i64 ((k : Int) - 1) ∧ Upd0 w wr ∧ Hid (wr.heap[w.heap.size]? = some (.cells #[.int .i64 id, .bool re, .int .i64 op, .bool au, .bool tr, .bool wa, .bool av, .int .i64 rc, .slice q qs.length cq, .slice a an.length ca, .slice n ns.length cn, .slice x ex.length cx, .int .i64 sz] 25 (0, 0))) ∧ Hid (wr.heap[w.heap.size + 1]? = some (.cells #[.int .i64 0, .bool false, .int .i64 0, .bool false, .bool false, .bool false, .bool false, .int .i64 0, .slice none 0 0, .slice none 0 0, .slice none 0 0, .slice none 0 0, .int .i64 0] 25 (0, 0))) ∧ Hid (fitN ⟨id, re, op, au, tr, wa, av, rc, qs, an, ns, ex, sz⟩ limit ex.length = fitJ ⟨id, re, op, au, tr, wa, av, rc, qs, an, ns, ex, sz⟩ limit k)) (fun nv _ => (intOf nv + 1).toNat)
  case atStart => exact ⟨ex.length + 1, Nat.le_refl _, by (show Value.int _ _ = Value.int _ _); congr 1; omega, (by repeat first | with_reducible (first | exact Upd.refl _ _ | assumption | apply Upd.drew | apply Upd.alloc) | refine Upd0.tr ?_ (by with_reducible assumption) | refine Upd.setCell ?_ (fun h => absurd h (by first | exact Nat.lt_irrefl _ | (simp only []; omega))) _), X1, Y1, Lib.hid (fitJ_eq _ _ _)⟩
  case round =>
    obtain ⟨k, hk, rfl, hu, B0, B1, hJ⟩ := hrel
    have zr := hu.size
    have hlb1 := blk_lt B1.out
    obtain ⟨mb0, mb1, mb2, mb3, mb4, mb5, mb6, mb7, mb8, mb9, mbA, mbB, mbC⟩ := cell13w B0.out; have hlmb := blk_lt B0.out; have fmb := fun i => blk_frz B0.out i
    rcases k with _ | j
    · rw [show (((0 : Nat) : Int) - 1) = -1 from rfl]
      obtain ⟨c, hc⟩ : ∃ c, encC (Msg.cut ⟨id, re, op, au, tr, wa, av, rc, qs, an, ns, ex, sz⟩) = c := ⟨_, rfl⟩
      obtain ⟨S, hS⟩ : ∃ S, encS (Msg.cut ⟨id, re, op, au, tr, wa, av, rc, qs, an, ns, ex, sz⟩) = S := ⟨_, rfl⟩
      rw [hc, hS] at hEc
      have hch := Lib.hid hc
      have hSh := Lib.hid hS
      clear hc hS hE
      have hw : (∃ c', c = c' ∧ (c' != 0) = true) ∨ (c = 0 ∧ limit < (S.length : Int)) ∨ (c = 0 ∧ ¬ limit < (S.length : Int)) := by
        by_cases h1 : c = 0
        · by_cases h2 : limit < (S.length : Int)
          · exact .inr (.inl ⟨h1, h2⟩)
          · exact .inr (.inr ⟨h1, h2⟩)
        · exact .inl ⟨c, rfl, bne_iff_ne.2 h1⟩
      rcases hw with ⟨c', rfl, h1⟩ | ⟨rfl, h2⟩ | ⟨rfl, h2⟩
      · have hfin0 := Lib.hid (fa_none hOh.out (hJ.out.trans (by rw [fitJ, if_neg (by rw [fits_no1 (by rw [hch.out]; exact bne_iff_ne.1 h1)]; decide)])))
        go_wp2_with (first
          | ((show Go.bodyPost _ _ _ Go.Exit.ret _ _); refine bodyPost_ret (res_msg Try.results30 rfl hfinh.out) rfl ?_)
          | ((show Go.wpList _ _ _ (Go.Oper.mk _ (Go.Op.store _ (Go.Operand.tmp 4) _) _ _ _ _ :: _) _ _); with_reducible refine wpList_store_rowTo rfl 25 (.tmp 4) (.tmp 74) rfl rfl (w.heap.size + 1) #[.int .i64 0, .bool false, .int .i64 0, .bool false, .bool false, .bool false, .bool false, .int .i64 0, .slice none 0 0, .slice none 0 0, .slice none 0 0, .slice none 0 0, .int .i64 0] rfl rfl 25 _ Y3.out (by kernel_rfl) (by kernel_rfl) (by kernel_rfl) ?_; generalize hwF : World.setRow _ _ _ = wF; obtain ⟨hfin, hup⟩ := fa_row Y3.out hwF; clear hwF; have hfinh := Lib.hid hfin; have huph := Lib.hid hup; clear hfin hup)
          | (go_at_call 17; (with_reducible refine (hCp.out _ (by repeat first | with_reducible (first | exact Upd.refl _ _ | assumption | apply Upd.drew | apply Upd.alloc) | refine Upd0.tr ?_ (by with_reducible assumption) | refine Upd.setCell ?_ (fun h => absurd h (by first | exact Nat.lt_irrefl _ | (simp only []; omega))) _)).use ?_); rintro v w2 ⟨q2, a2, n2, x2, cq2, ca2, cn2, cx2, rfl, ⟨_, _, _, ox2⟩, hR2, hu2, hn2, _, _⟩; have hle2 := own_le ox2; have hR2h := Lib.hid hR2; have hn2h := Lib.hid hn2; clear hR2 hn2 ox2; have X2 := Lib.hid (show w2.heap[w.heap.size]? = some (.cells #[.int .i64 id, .bool re, .int .i64 op, .bool au, .bool tr, .bool wa, .bool av, .int .i64 rc, .slice q qs.length cq, .slice a an.length ca, .slice n ns.length cn, .slice x ex.length cx, .int .i64 sz] 25 (0, 0)) from hu2.block (fun h => h) B0.out); have Y2 := Lib.hid (show w2.heap[w.heap.size + 1]? = some (.cells #[.int .i64 0, .bool false, .int .i64 0, .bool false, .bool false, .bool false, .bool false, .int .i64 0, .slice none 0 0, .slice none 0 0, .slice none 0 0, .slice none 0 0, .int .i64 0] 25 (0, 0)) from hu2.block (fun h => h) B1.out); have hlx := blk_lt X2.out; have hly := blk_lt Y2.out)
          | (go_at_call 19; (refine Calls.use (hEc.out q2 cq2 _ (msr_cut (hR2h.out.up (show Upd0 w2 _ from (by repeat first | with_reducible (first | exact Upd.refl _ _ | assumption | apply Upd.drew | apply Upd.alloc) | refine Upd0.tr ?_ (by with_reducible assumption) | refine Upd.setCell ?_ (fun h => absurd h (by first | exact Nat.lt_irrefl _ | (simp only []; omega))) _))))) ?_); rintro v w3 ⟨rfl, hu3⟩; have X3 := Lib.hid (show w3.heap[w.heap.size]? = some (.cells #[.int .i64 id, .bool re, .int .i64 op, .bool au, .bool tr, .bool wa, .bool av, .int .i64 rc, .slice q qs.length cq, .slice a an.length ca, .slice n ns.length cn, .slice x ex.length cx, .int .i64 sz] 25 (0, 0)) from hu3.block (fun h => h) (blk_alloc X2.out)); have Y3 := Lib.hid (show w3.heap[w.heap.size + 1]? = some (.cells #[.int .i64 0, .bool false, .int .i64 0, .bool false, .bool false, .bool false, .bool false, .int .i64 0, .slice none 0 0, .slice none 0 0, .slice none 0 0, .slice none 0 0, .int .i64 0] 25 (0, 0)) from hu3.block (fun h => h) (blk_alloc Y2.out)); have K3 := Lib.hid (show w3.heap[w2.heap.size]? = some (.cells #[.int .i64 id, .bool re, .int .i64 op, .bool au, .bool true, .bool wa, .bool av, .int .i64 rc, .slice q2 qs.length cq2, .slice none 0 0, .slice none 0 0, .slice none 0 0, .int .i64 sz] 25 (0, 0)) from hu3.block (fun h => h) (alloc_last _ _ _ rfl)); obtain ⟨mx0, mx1, mx2, mx3, mx4, mx5, mx6, mx7, mx8, mx9, mxA, mxB, mxC⟩ := cell13w X3.out; have hlmx := blk_lt X3.out; have fmx := fun i => blk_frz X3.out i; obtain ⟨mk0, mk1, mk2, mk3, mk4, mk5, mk6, mk7, mk8, mk9, mkA, mkB, mkC⟩ := cell13w K3.out; have hlmk := blk_lt K3.out; have fmk := fun i => blk_frz K3.out i)
          | (with_reducible refine wp_serial (by kernel_rfl) (by kernel_rfl) (by repeat with_reducible (first | apply NoBad.then | apply NoBad.inBlock | apply NoBad.jump | exact NoBad.rets)) ?_) | fail)
        all_goals
          unfold FitQ
          obtain ⟨e1, e2, e3⟩ := hfin0.out
          rw [e1, e2, e3]
          exact ⟨none, none, none, none, 0, 0, 0, 0, rfl, ⟨.inl rfl, .inl rfl, .inl rfl, .inl rfl⟩, fa_upd (show Upd0 w w3 from Upd0.tr (show Upd0 w _ from (by repeat first | with_reducible (first | exact Upd.refl _ _ | assumption | apply Upd.drew | apply Upd.alloc) | refine Upd0.tr ?_ (by with_reducible assumption) | refine Upd.setCell ?_ (fun h => absurd h (by first | exact Nat.lt_irrefl _ | (simp only []; omega))) _)) hu3) huph.out (by omega)⟩
      · have hfin0 := Lib.hid (fa_none hOh.out (hJ.out.trans (by rw [fitJ, if_neg (by rw [fits_no2 (by rw [hSh.out]; omega)]; decide)])))
        go_wp2_with (first
          | ((show Go.bodyPost _ _ _ Go.Exit.ret _ _); refine bodyPost_ret (res_msg Try.results30 rfl hfinh.out) rfl ?_)
          | ((show Go.wpList _ _ _ (Go.Oper.mk _ (Go.Op.store _ (Go.Operand.tmp 4) _) _ _ _ _ :: _) _ _); with_reducible refine wpList_store_rowTo rfl 25 (.tmp 4) (.tmp 74) rfl rfl (w.heap.size + 1) #[.int .i64 0, .bool false, .int .i64 0, .bool false, .bool false, .bool false, .bool false, .int .i64 0, .slice none 0 0, .slice none 0 0, .slice none 0 0, .slice none 0 0, .int .i64 0] rfl rfl 25 _ Y3.out (by kernel_rfl) (by kernel_rfl) (by kernel_rfl) ?_; generalize hwF : World.setRow _ _ _ = wF; obtain ⟨hfin, hup⟩ := fa_row Y3.out hwF; clear hwF; have hfinh := Lib.hid hfin; have huph := Lib.hid hup; clear hfin hup)
          | (go_at_call 17; (with_reducible refine (hCp.out _ (by repeat first | with_reducible (first | exact Upd.refl _ _ | assumption | apply Upd.drew | apply Upd.alloc) | refine Upd0.tr ?_ (by with_reducible assumption) | refine Upd.setCell ?_ (fun h => absurd h (by first | exact Nat.lt_irrefl _ | (simp only []; omega))) _)).use ?_); rintro v w2 ⟨q2, a2, n2, x2, cq2, ca2, cn2, cx2, rfl, ⟨_, _, _, ox2⟩, hR2, hu2, hn2, _, _⟩; have hle2 := own_le ox2; have hR2h := Lib.hid hR2; have hn2h := Lib.hid hn2; clear hR2 hn2 ox2; have X2 := Lib.hid (show w2.heap[w.heap.size]? = some (.cells #[.int .i64 id, .bool re, .int .i64 op, .bool au, .bool tr, .bool wa, .bool av, .int .i64 rc, .slice q qs.length cq, .slice a an.length ca, .slice n ns.length cn, .slice x ex.length cx, .int .i64 sz] 25 (0, 0)) from hu2.block (fun h => h) B0.out); have Y2 := Lib.hid (show w2.heap[w.heap.size + 1]? = some (.cells #[.int .i64 0, .bool false, .int .i64 0, .bool false, .bool false, .bool false, .bool false, .int .i64 0, .slice none 0 0, .slice none 0 0, .slice none 0 0, .slice none 0 0, .int .i64 0] 25 (0, 0)) from hu2.block (fun h => h) B1.out); have hlx := blk_lt X2.out; have hly := blk_lt Y2.out)
          | (go_at_call 19; (refine Calls.use (hEc.out q2 cq2 _ (msr_cut (hR2h.out.up (show Upd0 w2 _ from (by repeat first | with_reducible (first | exact Upd.refl _ _ | assumption | apply Upd.drew | apply Upd.alloc) | refine Upd0.tr ?_ (by with_reducible assumption) | refine Upd.setCell ?_ (fun h => absurd h (by first | exact Nat.lt_irrefl _ | (simp only []; omega))) _))))) ?_); rintro v w3 ⟨rfl, hu3⟩; have X3 := Lib.hid (show w3.heap[w.heap.size]? = some (.cells #[.int .i64 id, .bool re, .int .i64 op, .bool au, .bool tr, .bool wa, .bool av, .int .i64 rc, .slice q qs.length cq, .slice a an.length ca, .slice n ns.length cn, .slice x ex.length cx, .int .i64 sz] 25 (0, 0)) from hu3.block (fun h => h) (blk_alloc X2.out)); have Y3 := Lib.hid (show w3.heap[w.heap.size + 1]? = some (.cells #[.int .i64 0, .bool false, .int .i64 0, .bool false, .bool false, .bool false, .bool false, .int .i64 0, .slice none 0 0, .slice none 0 0, .slice none 0 0, .slice none 0 0, .int .i64 0] 25 (0, 0)) from hu3.block (fun h => h) (blk_alloc Y2.out)); have K3 := Lib.hid (show w3.heap[w2.heap.size]? = some (.cells #[.int .i64 id, .bool re, .int .i64 op, .bool au, .bool true, .bool wa, .bool av, .int .i64 rc, .slice q2 qs.length cq2, .slice none 0 0, .slice none 0 0, .slice none 0 0, .int .i64 sz] 25 (0, 0)) from hu3.block (fun h => h) (alloc_last _ _ _ rfl)); obtain ⟨mx0, mx1, mx2, mx3, mx4, mx5, mx6, mx7, mx8, mx9, mxA, mxB, mxC⟩ := cell13w X3.out; have hlmx := blk_lt X3.out; have fmx := fun i => blk_frz X3.out i; obtain ⟨mk0, mk1, mk2, mk3, mk4, mk5, mk6, mk7, mk8, mk9, mkA, mkB, mkC⟩ := cell13w K3.out; have hlmk := blk_lt K3.out; have fmk := fun i => blk_frz K3.out i)
          | (with_reducible refine wp_serial (by kernel_rfl) (by kernel_rfl) (by repeat with_reducible (first | apply NoBad.then | apply NoBad.inBlock | apply NoBad.jump | exact NoBad.rets)) ?_) | fail)
        all_goals
          unfold FitQ
          obtain ⟨e1, e2, e3⟩ := hfin0.out
          rw [e1, e2, e3]
          exact ⟨none, none, none, none, 0, 0, 0, 0, rfl, ⟨.inl rfl, .inl rfl, .inl rfl, .inl rfl⟩, fa_upd (show Upd0 w w3 from Upd0.tr (show Upd0 w _ from (by repeat first | with_reducible (first | exact Upd.refl _ _ | assumption | apply Upd.drew | apply Upd.alloc) | refine Upd0.tr ?_ (by with_reducible assumption) | refine Upd.setCell ?_ (fun h => absurd h (by first | exact Nat.lt_irrefl _ | (simp only []; omega))) _)) hu3) huph.out (by omega)⟩
      · have hfin0 := Lib.hid (fa_found hOh.out (hJ.out.trans (by rw [fitJ, if_pos (fits_yes hch.out (by rw [hSh.out]; omega))])))
        go_wp2_with (first
          | ((show Go.bodyPost _ _ _ Go.Exit.ret _ _); refine bodyPost_ret (res_msg Try.results30 rfl hfinh.out) rfl ?_)
          | ((show Go.wpList _ _ _ (Go.Oper.mk _ (Go.Op.store _ (Go.Operand.tmp 4) _) _ _ _ _ :: _) _ _); with_reducible refine wpList_store_rowTo rfl 25 (.tmp 4) (.tmp 75) rfl rfl (w.heap.size + 1) #[.int .i64 id, .bool re, .int .i64 op, .bool au, .bool true, .bool wa, .bool av, .int .i64 rc, .slice q2 qs.length cq2, .slice none 0 0, .slice none 0 0, .slice none 0 0, .int .i64 sz] rfl rfl 25 _ Y3.out (by kernel_rfl) (by kernel_rfl) (by kernel_rfl) ?_; generalize hwF : World.setRow _ _ _ = wF; obtain ⟨hfin, hup⟩ := fa_row Y3.out hwF; clear hwF; have hfinh := Lib.hid hfin; have huph := Lib.hid hup; clear hfin hup)
          | (go_at_call 17; (with_reducible refine (hCp.out _ (by repeat first | with_reducible (first | exact Upd.refl _ _ | assumption | apply Upd.drew | apply Upd.alloc) | refine Upd0.tr ?_ (by with_reducible assumption) | refine Upd.setCell ?_ (fun h => absurd h (by first | exact Nat.lt_irrefl _ | (simp only []; omega))) _)).use ?_); rintro v w2 ⟨q2, a2, n2, x2, cq2, ca2, cn2, cx2, rfl, ⟨_, _, _, ox2⟩, hR2, hu2, hn2, _, _⟩; have hle2 := own_le ox2; have hR2h := Lib.hid hR2; have hn2h := Lib.hid hn2; clear hR2 hn2 ox2; have X2 := Lib.hid (show w2.heap[w.heap.size]? = some (.cells #[.int .i64 id, .bool re, .int .i64 op, .bool au, .bool tr, .bool wa, .bool av, .int .i64 rc, .slice q qs.length cq, .slice a an.length ca, .slice n ns.length cn, .slice x ex.length cx, .int .i64 sz] 25 (0, 0)) from hu2.block (fun h => h) B0.out); have Y2 := Lib.hid (show w2.heap[w.heap.size + 1]? = some (.cells #[.int .i64 0, .bool false, .int .i64 0, .bool false, .bool false, .bool false, .bool false, .int .i64 0, .slice none 0 0, .slice none 0 0, .slice none 0 0, .slice none 0 0, .int .i64 0] 25 (0, 0)) from hu2.block (fun h => h) B1.out); have hlx := blk_lt X2.out; have hly := blk_lt Y2.out)
          | (go_at_call 19; (refine Calls.use (hEc.out q2 cq2 _ (msr_cut (hR2h.out.up (show Upd0 w2 _ from (by repeat first | with_reducible (first | exact Upd.refl _ _ | assumption | apply Upd.drew | apply Upd.alloc) | refine Upd0.tr ?_ (by with_reducible assumption) | refine Upd.setCell ?_ (fun h => absurd h (by first | exact Nat.lt_irrefl _ | (simp only []; omega))) _))))) ?_); rintro v w3 ⟨rfl, hu3⟩; have X3 := Lib.hid (show w3.heap[w.heap.size]? = some (.cells #[.int .i64 id, .bool re, .int .i64 op, .bool au, .bool tr, .bool wa, .bool av, .int .i64 rc, .slice q qs.length cq, .slice a an.length ca, .slice n ns.length cn, .slice x ex.length cx, .int .i64 sz] 25 (0, 0)) from hu3.block (fun h => h) (blk_alloc X2.out)); have Y3 := Lib.hid (show w3.heap[w.heap.size + 1]? = some (.cells #[.int .i64 0, .bool false, .int .i64 0, .bool false, .bool false, .bool false, .bool false, .int .i64 0, .slice none 0 0, .slice none 0 0, .slice none 0 0, .slice none 0 0, .int .i64 0] 25 (0, 0)) from hu3.block (fun h => h) (blk_alloc Y2.out)); have K3 := Lib.hid (show w3.heap[w2.heap.size]? = some (.cells #[.int .i64 id, .bool re, .int .i64 op, .bool au, .bool true, .bool wa, .bool av, .int .i64 rc, .slice q2 qs.length cq2, .slice none 0 0, .slice none 0 0, .slice none 0 0, .int .i64 sz] 25 (0, 0)) from hu3.block (fun h => h) (alloc_last _ _ _ rfl)); obtain ⟨mx0, mx1, mx2, mx3, mx4, mx5, mx6, mx7, mx8, mx9, mxA, mxB, mxC⟩ := cell13w X3.out; have hlmx := blk_lt X3.out; have fmx := fun i => blk_frz X3.out i; obtain ⟨mk0, mk1, mk2, mk3, mk4, mk5, mk6, mk7, mk8, mk9, mkA, mkB, mkC⟩ := cell13w K3.out; have hlmk := blk_lt K3.out; have fmk := fun i => blk_frz K3.out i)
          | (with_reducible refine wp_serial (by kernel_rfl) (by kernel_rfl) (by repeat with_reducible (first | apply NoBad.then | apply NoBad.inBlock | apply NoBad.jump | exact NoBad.rets)) ?_) | fail)
        all_goals
          unfold FitQ
          obtain ⟨e1, e2, e3⟩ := hfin0.out
          rw [e1, e2, e3, hSh.out]
          exact ⟨q2, none, none, none, cq2, 0, 0, 0, rfl, fa_ms (msr_cut hR2h.out) (show Upd0 w2 w3 from Upd0.tr (show Upd0 w2 _ from (by repeat first | with_reducible (first | exact Upd.refl _ _ | assumption | apply Upd.drew | apply Upd.alloc) | refine Upd0.tr ?_ (by with_reducible assumption) | refine Upd.setCell ?_ (fun h => absurd h (by first | exact Nat.lt_irrefl _ | (simp only []; omega))) _)) hu3) huph.out Y3.out (fun g o h e => by
            have h0 := hn2h.out g o (by
              rcases h with h | h | h | h
              · exact .inl h
              all_goals cases h)
            omega), fa_upd (show Upd0 w w3 from Upd0.tr (show Upd0 w _ from (by repeat first | with_reducible (first | exact Upd.refl _ _ | assumption | apply Upd.drew | apply Upd.alloc) | refine Upd0.tr ?_ (by with_reducible assumption) | refine Upd.setCell ?_ (fun h => absurd h (by first | exact Nat.lt_irrefl _ | (simp only []; omega))) _)) hu3) huph.out (by omega)⟩
    · rw [show (((j + 1 : Nat) : Int) - 1) = (j : Int) by omega]
      have hEj := Lib.hid (hE.out j (by omega))
      obtain ⟨c, hc⟩ : ∃ c, encC (Msg.tk ⟨id, re, op, au, tr, wa, av, rc, qs, an, ns, ex, sz⟩ j) = c := ⟨_, rfl⟩
      obtain ⟨S, hS⟩ : ∃ S, encS (Msg.tk ⟨id, re, op, au, tr, wa, av, rc, qs, an, ns, ex, sz⟩ j) = S := ⟨_, rfl⟩
      rw [hc, hS] at hEj
      have hch := Lib.hid hc
      have hSh := Lib.hid hS
      clear hc hS hE hEc
      have hw : (∃ c', c = c' ∧ (c' == 0) = false ∧ ¬ c' = 0) ∨ (c = 0 ∧ ¬ (S.length : Int) ≤ limit) ∨ (c = 0 ∧ (S.length : Int) ≤ limit) := by
        by_cases h1 : c = 0
        · by_cases h2 : (S.length : Int) ≤ limit
          · exact .inr (.inr ⟨h1, h2⟩)
          · exact .inr (.inl ⟨h1, h2⟩)
        · exact .inl ⟨c, rfl, beq_eq_false_iff_ne.2 h1, h1⟩
      rcases hw with ⟨c', rfl, h1, h3⟩ | ⟨rfl, h2⟩ | ⟨rfl, h2⟩
      · have hJ2 := Lib.hid (hJ.out.trans (fitJ_less (fits_no1 (by rw [hch.out]; exact h3))))
        go_wp2_with (first
          | (go_at_call 17; (with_reducible refine (hCp.out _ (by repeat first | with_reducible (first | exact Upd.refl _ _ | assumption | apply Upd.drew | apply Upd.alloc) | refine Upd0.tr ?_ (by with_reducible assumption) | refine Upd.setCell ?_ (fun h => absurd h (by first | exact Nat.lt_irrefl _ | (simp only []; omega))) _)).use ?_); rintro v w2 ⟨q2, a2, n2, x2, cq2, ca2, cn2, cx2, rfl, ⟨_, _, _, ox2⟩, hR2, hu2, hn2, _, _⟩; have hle2 := own_le ox2; have hR2h := Lib.hid hR2; have hn2h := Lib.hid hn2; clear hR2 hn2 ox2; have X2 := Lib.hid (show w2.heap[w.heap.size]? = some (.cells #[.int .i64 id, .bool re, .int .i64 op, .bool au, .bool tr, .bool wa, .bool av, .int .i64 rc, .slice q qs.length cq, .slice a an.length ca, .slice n ns.length cn, .slice x ex.length cx, .int .i64 sz] 25 (0, 0)) from hu2.block (fun h => h) B0.out); have Y2 := Lib.hid (show w2.heap[w.heap.size + 1]? = some (.cells #[.int .i64 0, .bool false, .int .i64 0, .bool false, .bool false, .bool false, .bool false, .int .i64 0, .slice none 0 0, .slice none 0 0, .slice none 0 0, .slice none 0 0, .int .i64 0] 25 (0, 0)) from hu2.block (fun h => h) B1.out); have hlx := blk_lt X2.out; have hly := blk_lt Y2.out)
          | (go_at_call 19; (refine Calls.use (hEj.out q2 a2 n2 x2 cq2 ca2 cn2 cx2 _ (msr_tk (hR2h.out.up (show Upd0 w2 _ from (by repeat first | with_reducible (first | exact Upd.refl _ _ | assumption | apply Upd.drew | apply Upd.alloc) | refine Upd0.tr ?_ (by with_reducible assumption) | refine Upd.setCell ?_ (fun h => absurd h (by first | exact Nat.lt_irrefl _ | (simp only []; omega))) _))) j)) ?_); rintro v w3 ⟨rfl, hu3⟩; have X3 := Lib.hid (show w3.heap[w.heap.size]? = some (.cells #[.int .i64 id, .bool re, .int .i64 op, .bool au, .bool tr, .bool wa, .bool av, .int .i64 rc, .slice q qs.length cq, .slice a an.length ca, .slice n ns.length cn, .slice x ex.length cx, .int .i64 sz] 25 (0, 0)) from hu3.block (fun h => h) (blk_alloc X2.out)); have Y3 := Lib.hid (show w3.heap[w.heap.size + 1]? = some (.cells #[.int .i64 0, .bool false, .int .i64 0, .bool false, .bool false, .bool false, .bool false, .int .i64 0, .slice none 0 0, .slice none 0 0, .slice none 0 0, .slice none 0 0, .int .i64 0] 25 (0, 0)) from hu3.block (fun h => h) (blk_alloc Y2.out)); have K3 := Lib.hid (show w3.heap[w2.heap.size]? = some (.cells #[.int .i64 id, .bool re, .int .i64 op, .bool au, .bool tr, .bool wa, .bool av, .int .i64 rc, .slice q2 qs.length cq2, .slice a2 an.length ca2, .slice n2 ns.length cn2, .slice x2 j cx2, .int .i64 sz] 25 (0, 0)) from hu3.block (fun h => h) (alloc_last _ _ _ rfl)); obtain ⟨mx0, mx1, mx2, mx3, mx4, mx5, mx6, mx7, mx8, mx9, mxA, mxB, mxC⟩ := cell13w X3.out; have hlmx := blk_lt X3.out; have fmx := fun i => blk_frz X3.out i; obtain ⟨mk0, mk1, mk2, mk3, mk4, mk5, mk6, mk7, mk8, mk9, mkA, mkB, mkC⟩ := cell13w K3.out; have hlmk := blk_lt K3.out; have fmk := fun i => blk_frz K3.out i)
          | (with_reducible refine wp_serial (by kernel_rfl) (by kernel_rfl) (by repeat with_reducible (first | apply NoBad.then | apply NoBad.inBlock | apply NoBad.jump | exact NoBad.rets)) ?_) | fail)
        go_roundw
        case rel => exact ⟨j, by omega, by go_num, show Upd0 w w3 from Upd0.tr (show Upd0 w _ from (by repeat first | with_reducible (first | exact Upd.refl _ _ | assumption | apply Upd.drew | apply Upd.alloc) | refine Upd0.tr ?_ (by with_reducible assumption) | refine Upd.setCell ?_ (fun h => absurd h (by first | exact Nat.lt_irrefl _ | (simp only []; omega))) _)) hu3, X3, Y3, hJ2⟩
        case measure => (simp [intOf]; try omega)
      · have hJ2 := Lib.hid (hJ.out.trans (fitJ_less (fits_no2 (by rw [hSh.out]; exact h2))))
        go_wp2_with (first
          | (go_at_call 17; (with_reducible refine (hCp.out _ (by repeat first | with_reducible (first | exact Upd.refl _ _ | assumption | apply Upd.drew | apply Upd.alloc) | refine Upd0.tr ?_ (by with_reducible assumption) | refine Upd.setCell ?_ (fun h => absurd h (by first | exact Nat.lt_irrefl _ | (simp only []; omega))) _)).use ?_); rintro v w2 ⟨q2, a2, n2, x2, cq2, ca2, cn2, cx2, rfl, ⟨_, _, _, ox2⟩, hR2, hu2, hn2, _, _⟩; have hle2 := own_le ox2; have hR2h := Lib.hid hR2; have hn2h := Lib.hid hn2; clear hR2 hn2 ox2; have X2 := Lib.hid (show w2.heap[w.heap.size]? = some (.cells #[.int .i64 id, .bool re, .int .i64 op, .bool au, .bool tr, .bool wa, .bool av, .int .i64 rc, .slice q qs.length cq, .slice a an.length ca, .slice n ns.length cn, .slice x ex.length cx, .int .i64 sz] 25 (0, 0)) from hu2.block (fun h => h) B0.out); have Y2 := Lib.hid (show w2.heap[w.heap.size + 1]? = some (.cells #[.int .i64 0, .bool false, .int .i64 0, .bool false, .bool false, .bool false, .bool false, .int .i64 0, .slice none 0 0, .slice none 0 0, .slice none 0 0, .slice none 0 0, .int .i64 0] 25 (0, 0)) from hu2.block (fun h => h) B1.out); have hlx := blk_lt X2.out; have hly := blk_lt Y2.out)
          | (go_at_call 19; (refine Calls.use (hEj.out q2 a2 n2 x2 cq2 ca2 cn2 cx2 _ (msr_tk (hR2h.out.up (show Upd0 w2 _ from (by repeat first | with_reducible (first | exact Upd.refl _ _ | assumption | apply Upd.drew | apply Upd.alloc) | refine Upd0.tr ?_ (by with_reducible assumption) | refine Upd.setCell ?_ (fun h => absurd h (by first | exact Nat.lt_irrefl _ | (simp only []; omega))) _))) j)) ?_); rintro v w3 ⟨rfl, hu3⟩; have X3 := Lib.hid (show w3.heap[w.heap.size]? = some (.cells #[.int .i64 id, .bool re, .int .i64 op, .bool au, .bool tr, .bool wa, .bool av, .int .i64 rc, .slice q qs.length cq, .slice a an.length ca, .slice n ns.length cn, .slice x ex.length cx, .int .i64 sz] 25 (0, 0)) from hu3.block (fun h => h) (blk_alloc X2.out)); have Y3 := Lib.hid (show w3.heap[w.heap.size + 1]? = some (.cells #[.int .i64 0, .bool false, .int .i64 0, .bool false, .bool false, .bool false, .bool false, .int .i64 0, .slice none 0 0, .slice none 0 0, .slice none 0 0, .slice none 0 0, .int .i64 0] 25 (0, 0)) from hu3.block (fun h => h) (blk_alloc Y2.out)); have K3 := Lib.hid (show w3.heap[w2.heap.size]? = some (.cells #[.int .i64 id, .bool re, .int .i64 op, .bool au, .bool tr, .bool wa, .bool av, .int .i64 rc, .slice q2 qs.length cq2, .slice a2 an.length ca2, .slice n2 ns.length cn2, .slice x2 j cx2, .int .i64 sz] 25 (0, 0)) from hu3.block (fun h => h) (alloc_last _ _ _ rfl)); obtain ⟨mx0, mx1, mx2, mx3, mx4, mx5, mx6, mx7, mx8, mx9, mxA, mxB, mxC⟩ := cell13w X3.out; have hlmx := blk_lt X3.out; have fmx := fun i => blk_frz X3.out i; obtain ⟨mk0, mk1, mk2, mk3, mk4, mk5, mk6, mk7, mk8, mk9, mkA, mkB, mkC⟩ := cell13w K3.out; have hlmk := blk_lt K3.out; have fmk := fun i => blk_frz K3.out i)
          | (with_reducible refine wp_serial (by kernel_rfl) (by kernel_rfl) (by repeat with_reducible (first | apply NoBad.then | apply NoBad.inBlock | apply NoBad.jump | exact NoBad.rets)) ?_) | fail)
        go_roundw
        case rel => exact ⟨j, by omega, by go_num, show Upd0 w w3 from Upd0.tr (show Upd0 w _ from (by repeat first | with_reducible (first | exact Upd.refl _ _ | assumption | apply Upd.drew | apply Upd.alloc) | refine Upd0.tr ?_ (by with_reducible assumption) | refine Upd.setCell ?_ (fun h => absurd h (by first | exact Nat.lt_irrefl _ | (simp only []; omega))) _)) hu3, X3, Y3, hJ2⟩
        case measure => (simp [intOf]; try omega)
      · have hjl : j ≤ ex.length := by omega
        have hfin0 := Lib.hid (fa_found hOh.out (hJ.out.trans (fitJ_hit (fits_yes hch.out (by rw [hSh.out]; exact h2)))))
        go_wp2_with (first
          | ((show Go.bodyPost _ _ _ Go.Exit.ret _ _); refine bodyPost_ret (res_msg Try.results30 rfl hfinh.out) rfl ?_)
          | ((show Go.wpList _ _ _ (Go.Oper.mk _ (Go.Op.store _ (Go.Operand.tmp 4) _) _ _ _ _ :: _) _ _); with_reducible refine wpList_store_rowTo rfl 25 (.tmp 4) (.tmp 53) rfl rfl (w.heap.size + 1) #[.int .i64 id, .bool re, .int .i64 op, .bool au, .bool tr, .bool wa, .bool av, .int .i64 rc, .slice q2 qs.length cq2, .slice a2 an.length ca2, .slice n2 ns.length cn2, .slice x2 j cx2, .int .i64 sz] rfl rfl 25 _ Y3.out (by kernel_rfl) (by kernel_rfl) (by kernel_rfl) ?_; generalize hwF : World.setRow _ _ _ = wF; obtain ⟨hfin, hup⟩ := fa_row Y3.out hwF; clear hwF; have hfinh := Lib.hid hfin; have huph := Lib.hid hup; clear hfin hup)
          | (go_at_call 17; (with_reducible refine (hCp.out _ (by repeat first | with_reducible (first | exact Upd.refl _ _ | assumption | apply Upd.drew | apply Upd.alloc) | refine Upd0.tr ?_ (by with_reducible assumption) | refine Upd.setCell ?_ (fun h => absurd h (by first | exact Nat.lt_irrefl _ | (simp only []; omega))) _)).use ?_); rintro v w2 ⟨q2, a2, n2, x2, cq2, ca2, cn2, cx2, rfl, ⟨_, _, _, ox2⟩, hR2, hu2, hn2, _, _⟩; have hle2 := own_le ox2; have hR2h := Lib.hid hR2; have hn2h := Lib.hid hn2; clear hR2 hn2 ox2; have X2 := Lib.hid (show w2.heap[w.heap.size]? = some (.cells #[.int .i64 id, .bool re, .int .i64 op, .bool au, .bool tr, .bool wa, .bool av, .int .i64 rc, .slice q qs.length cq, .slice a an.length ca, .slice n ns.length cn, .slice x ex.length cx, .int .i64 sz] 25 (0, 0)) from hu2.block (fun h => h) B0.out); have Y2 := Lib.hid (show w2.heap[w.heap.size + 1]? = some (.cells #[.int .i64 0, .bool false, .int .i64 0, .bool false, .bool false, .bool false, .bool false, .int .i64 0, .slice none 0 0, .slice none 0 0, .slice none 0 0, .slice none 0 0, .int .i64 0] 25 (0, 0)) from hu2.block (fun h => h) B1.out); have hlx := blk_lt X2.out; have hly := blk_lt Y2.out)
          | (go_at_call 19; (refine Calls.use (hEj.out q2 a2 n2 x2 cq2 ca2 cn2 cx2 _ (msr_tk (hR2h.out.up (show Upd0 w2 _ from (by repeat first | with_reducible (first | exact Upd.refl _ _ | assumption | apply Upd.drew | apply Upd.alloc) | refine Upd0.tr ?_ (by with_reducible assumption) | refine Upd.setCell ?_ (fun h => absurd h (by first | exact Nat.lt_irrefl _ | (simp only []; omega))) _))) j)) ?_); rintro v w3 ⟨rfl, hu3⟩; have X3 := Lib.hid (show w3.heap[w.heap.size]? = some (.cells #[.int .i64 id, .bool re, .int .i64 op, .bool au, .bool tr, .bool wa, .bool av, .int .i64 rc, .slice q qs.length cq, .slice a an.length ca, .slice n ns.length cn, .slice x ex.length cx, .int .i64 sz] 25 (0, 0)) from hu3.block (fun h => h) (blk_alloc X2.out)); have Y3 := Lib.hid (show w3.heap[w.heap.size + 1]? = some (.cells #[.int .i64 0, .bool false, .int .i64 0, .bool false, .bool false, .bool false, .bool false, .int .i64 0, .slice none 0 0, .slice none 0 0, .slice none 0 0, .slice none 0 0, .int .i64 0] 25 (0, 0)) from hu3.block (fun h => h) (blk_alloc Y2.out)); have K3 := Lib.hid (show w3.heap[w2.heap.size]? = some (.cells #[.int .i64 id, .bool re, .int .i64 op, .bool au, .bool tr, .bool wa, .bool av, .int .i64 rc, .slice q2 qs.length cq2, .slice a2 an.length ca2, .slice n2 ns.length cn2, .slice x2 j cx2, .int .i64 sz] 25 (0, 0)) from hu3.block (fun h => h) (alloc_last _ _ _ rfl)); obtain ⟨mx0, mx1, mx2, mx3, mx4, mx5, mx6, mx7, mx8, mx9, mxA, mxB, mxC⟩ := cell13w X3.out; have hlmx := blk_lt X3.out; have fmx := fun i => blk_frz X3.out i; obtain ⟨mk0, mk1, mk2, mk3, mk4, mk5, mk6, mk7, mk8, mk9, mkA, mkB, mkC⟩ := cell13w K3.out; have hlmk := blk_lt K3.out; have fmk := fun i => blk_frz K3.out i)
          | (with_reducible refine wp_serial (by kernel_rfl) (by kernel_rfl) (by repeat with_reducible (first | apply NoBad.then | apply NoBad.inBlock | apply NoBad.jump | exact NoBad.rets)) ?_) | fail)
        all_goals
          unfold FitQ
          obtain ⟨e1, e2, e3⟩ := hfin0.out
          rw [e1, e2, e3, hSh.out]
          exact ⟨q2, a2, n2, x2, cq2, ca2, cn2, cx2, by simp only [Msg.val, Msg.tk, List.length_take, Nat.min_eq_left hjl], fa_ms (msr_tk hR2h.out j) (show Upd0 w2 w3 from Upd0.tr (show Upd0 w2 _ from (by repeat first | with_reducible (first | exact Upd.refl _ _ | assumption | apply Upd.drew | apply Upd.alloc) | refine Upd0.tr ?_ (by with_reducible assumption) | refine Upd.setCell ?_ (fun h => absurd h (by first | exact Nat.lt_irrefl _ | (simp only []; omega))) _)) hu3) huph.out Y3.out (fun g o h e => by
            have h0 := hn2h.out g o h
            omega), fa_upd (show Upd0 w w3 from Upd0.tr (show Upd0 w _ from (by repeat first | with_reducible (first | exact Upd.refl _ _ | assumption | apply Upd.drew | apply Upd.alloc) | refine Upd0.tr ?_ (by with_reducible assumption) | refine Upd.setCell ?_ (fun h => absurd h (by first | exact Nat.lt_irrefl _ | (simp only []; omega))) _)) hu3) huph.out (by omega)⟩
theorem rfit_w (m : Msg) (limit : Int) (q a n x : Option Addr) (cq ca cn cx : Nat) (w : World) (h : MsR w m q a n x) (hm : Mid m) :
    Calls Try.prog 30 #[m.val q a n x cq ca cn cx, .int .i64 limit] w (Rets fun r w' => FitQ m limit w r w') := by
  cases hO : fitO m limit with
  | true => exact rfit_yes m limit q a n x cq ca cn cx w h hm hO
  | false =>
    unfold FitQ
    have e : fitR m limit = none := by rw [fitR, hO]; rfl
    rw [show fitM m limit = msgZ by rw [fitM, e]; rfl, show fitS m limit = [] by rw [fitS, e], show fitC m limit = 1 by rw [fitC, hO]; rfl]
    refine (rfit_no m limit q a n x cq ca cn cx w h hm hO).use ?_
    rintro v w' ⟨rfl, hu⟩
    exact ⟨none, none, none, none, 0, 0, 0, 0, rfl, ⟨.inl rfl, .inl rfl, .inl rfl, .inl rfl⟩, hu⟩
end Go.Proofs.Ytgdejgfmhndbhaa
