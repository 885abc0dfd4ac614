/-
  Check: the document's.
-/
import Derived.Test.YtgdejgfmhndbhaaMsF
namespace Go.Proofs.Ytgdejgfmhndbhaa
open Go.RowKit Go.Maps
set_option linter.unusedSimpArgs false
set_option linter.unusedVariables false
variable {B : Nat}
theorem head_iff (m : Msg) : (headB m = true ∧ m.qs.length ≤ 10) ↔ (¬ m.id < 0 ∧ ¬ 65535 < m.id ∧ ¬ m.op < 0 ∧ ¬ 15 < m.op ∧ ¬ m.rc < 0 ∧ ¬ 15 < m.rc ∧ ¬ (10 : Int) < m.qs.length) ∧ (m.sz = 0 ∨ (¬ m.sz = 0 ∧ ¬ m.sz < 512 ∧ ¬ 65535 < m.sz)) := by
  simp only [headB, szB, Bool.and_eq_true, Bool.or_eq_true, decide_eq_true_eq]
  omega
theorem msgC_no {m : Msg} (h : ¬ (headB m = true ∧ m.qs.length ≤ 10)) : msgC m = 1 := by
  have : msgB m = false := by
    cases hb : msgB m with
    | false => rfl
    | true =>
      simp only [msgB, Bool.and_eq_true, decide_eq_true_eq] at hb
      exact absurd ⟨hb.1.1, hb.1.2.1⟩ h
  rw [msgC, this]; rfl
set_option maxRecDepth 100000 in
set_option maxHeartbeats 4000000 in
theorem rcheckm_w (m : Msg) (q a n x : Option Addr) (cq ca cn cx : Nat) (w : World) (h : MsR w m q a n x) (hm : Mid m) :
    Calls Try.prog 21 #[m.val q a n x cq ca cn cx] w (Rets fun r w' => r = .int .i64 (msgC m) ∧ Upd0 w w') := by
  have hh := Lib.hid h
  have hA := Lib.hid (fun (w' : World) (k : Upd0 w w') => rmay_w a ca m.an w' (hh.out.an.up k) hm.an)
  have hN := Lib.hid (fun (w' : World) (k : Upd0 w w') => rmay_w n cn m.ns w' (hh.out.ns.up k) hm.ns)
  have hX := Lib.hid (fun (w' : World) (k : Upd0 w w') => rmay_w x cx m.ex w' (hh.out.ex.up k) hm.ex)
  have hl5 := hm.qs.1
  have hlq := Lib.hid hm.qs.2
  clear h hm
  by_cases hH : headB m = true ∧ m.qs.length ≤ 10
  case neg =>
    have hC := Lib.hid (msgC_no hH)
    rw [head_iff] at hH
    have hcs : m.id < 0 ∨ (¬ m.id < 0 ∧ 65535 < m.id) ∨ (¬ m.id < 0 ∧ ¬ 65535 < m.id ∧ m.op < 0) ∨ (¬ m.id < 0 ∧ ¬ 65535 < m.id ∧ ¬ m.op < 0 ∧ 15 < m.op) ∨ (¬ m.id < 0 ∧ ¬ 65535 < m.id ∧ ¬ m.op < 0 ∧ ¬ 15 < m.op ∧ m.rc < 0) ∨ (¬ m.id < 0 ∧ ¬ 65535 < m.id ∧ ¬ m.op < 0 ∧ ¬ 15 < m.op ∧ ¬ m.rc < 0 ∧ 15 < m.rc) ∨
        (¬ m.id < 0 ∧ ¬ 65535 < m.id ∧ ¬ m.op < 0 ∧ ¬ 15 < m.op ∧ ¬ m.rc < 0 ∧ ¬ 15 < m.rc ∧ (10 : Int) < m.qs.length) ∨
        ((¬ m.id < 0 ∧ ¬ 65535 < m.id ∧ ¬ m.op < 0 ∧ ¬ 15 < m.op ∧ ¬ m.rc < 0 ∧ ¬ 15 < m.rc ∧ ¬ (10 : Int) < m.qs.length) ∧ ((¬ m.sz = 0 ∧ m.sz < 512) ∨ (¬ m.sz = 0 ∧ ¬ m.sz < 512 ∧ 65535 < m.sz))) := by omega
    rw [hC.out]
    clear hH
    obtain ⟨id, re, op, au, tr, wa, av, rc, qs, an, ns, ex, sz⟩ := m
    simp only [] at hcs hl5
    simp only [Msg.val]
    rcases hcs with k1 | ⟨k1, k2⟩ | ⟨k1, k2, k3⟩ | ⟨k1, k2, k3, k4⟩ | ⟨k1, k2, k3, k4, k5⟩ | ⟨k1, k2, k3, k4, k5, k6⟩ | ⟨k1, k2, k3, k4, k5, k6, k7⟩ | ⟨⟨k1, k2, k3, k4, k5, k6, k7⟩, ⟨k8, k9⟩ | ⟨k8, k9, k10⟩⟩
    all_goals
      go_enter Try.func21, Try.ntmps21
      go_wp2_with (first | (with_reducible refine wp_serial (by kernel_rfl) (by kernel_rfl) (by repeat with_reducible (first | apply NoBad.then | apply NoBad.inBlock | apply NoBad.jump | exact NoBad.rets)) ?_) | fail)
      all_goals go_returns
      all_goals exact ⟨rfl, (by repeat first | with_reducible (first | exact Upd.refl _ _ | assumption | apply Upd.drew | apply Upd.alloc) | refine Upd0.tr ?_ (by with_reducible assumption) | refine Upd.setCell ?_ (fun h => absurd h (by first | exact Nat.lt_irrefl _ | (simp only []; omega))) _)⟩
  have hH2 := (head_iff m).1 hH
  obtain ⟨sa, hsa⟩ : ∃ b, mayB m.an = b := ⟨_, rfl⟩
  obtain ⟨sn, hsn⟩ : ∃ b, mayB m.ns = b := ⟨_, rfl⟩
  obtain ⟨sx, hsx⟩ : ∃ b, mayB m.ex = b := ⟨_, rfl⟩
  have hmB : msgC m = if m.qs.all Qn.ok && (sa && (sn && sx)) then 0 else 1 := by
    rw [msgC, msgB, hH.1, decide_eq_true hH.2, hsa, hsn, hsx, Bool.true_and, Bool.true_and]
  rw [hsa] at hA
  rw [hsn] at hN
  rw [hsx] at hX
  obtain ⟨C, hC0⟩ : ∃ C, msgC m = C := ⟨_, rfl⟩
  rw [hC0]
  have hCC := Lib.hid (hC0.symm.trans hmB)
  obtain ⟨⟨k1, k2, k3, k4, k5, k6, k7⟩, hz⟩ := hH2
  clear hmB hsa hsn hsx hH hC0
  obtain ⟨id, re, op, au, tr, wa, av, rc, qs, an, ns, ex, sz⟩ := m
  simp only [] at hA hN hX hl5 hlq k1 k2 k3 k4 k5 k6 k7 hz ⊢
  simp only [Msg.val]
  rcases hz with rfl | ⟨z1, z2, z3⟩
  ·
    go_enter Try.func21, Try.ntmps21
    go_wp2_with (first | (with_reducible refine wp_serial (by kernel_rfl) (by kernel_rfl) (by repeat with_reducible (first | apply NoBad.then | apply NoBad.inBlock | apply NoBad.jump | exact NoBad.rets)) ?_) | fail)
    go_loopw [3] (fun jj wr => ∃ j : Nat, j ≤ qs.length ∧ jj = .int .i64 j ∧ Upd0 w wr ∧ wr.heap[w.heap.size]? = some (.cells #[.int .i64 id, .bool re, .int .i64 op, .bool au, .bool tr, .bool wa, .bool av, .int .i64 rc, .slice q qs.length cq, .slice a an.length ca, .slice n ns.length cn, .slice x ex.length cx, .int .i64 0] 25 (0, 0)) ∧ Hid ((qs.take j).all Qn.ok = true)) (fun jj _ => qs.length - (intOf jj).toNat)
    case atStart => exact ⟨0, Nat.zero_le _, rfl, (by repeat first | with_reducible (first | exact Upd.refl _ _ | assumption | apply Upd.drew | apply Upd.alloc) | refine Upd0.tr ?_ (by with_reducible assumption) | refine Upd.setCell ?_ (fun h => absurd h (by first | exact Nat.lt_irrefl _ | (simp only []; omega))) _), alloc_last _ _ _ rfl, Lib.hid rfl⟩
    case round =>
      obtain ⟨j, hj, rfl, hu, hb, hno⟩ := hrel
      obtain ⟨m0, m1, m2, m3, m4, m5, m6, m7, m8, m9, mA, mB, mC⟩ := cell13w hb
      have hbh := Lib.hid hb
      have hsz := blk_lt hb
      clear hb
      by_cases hlt : j < qs.length
      · obtain ⟨y, hx⟩ : ∃ x, qs[j]? = some x := ⟨qs[j], List.getElem?_eq_getElem hlt⟩
        obtain ⟨g, o, rfl, hg, e0, e1⟩ := hh.out.qs.some hx
        have hgw : g < wr.heap.size := Nat.lt_of_lt_of_le hg hu.size
        have d0 := hu.cell (fun h => h) e0
        have d1 := hu.cell (fun h => h) e1
        have hxh := Lib.hid hx
        have hbw := Lib.hid (rquestion_w y (hlq.out y (List.mem_of_getElem? hx)))
        clear hx e0 e1
        cases hp : y.ok with
        | false =>
          have hf := Lib.hid (all_no hxh.out hp)
          have hph := Lib.hid hp
          clear hp
          obtain ⟨nm, ty⟩ := y
          simp only [Qn.val] at hbw
          go_wp2_with (first
            | (go_at_call 46; (with_reducible refine (hbw.out _).use ?_); rintro v w2 ⟨rfl, hu2⟩; rw [hph.out])
            | (with_reducible refine wp_serial (by kernel_rfl) (by kernel_rfl) (by repeat with_reducible (first | apply NoBad.then | apply NoBad.inBlock | apply NoBad.jump | exact NoBad.rets)) ?_) | fail)
          all_goals go_returns
          all_goals exact ⟨by rw [hCC.out, hf.out]; rfl, (by repeat first | with_reducible (first | exact Upd.refl _ _ | assumption | apply Upd.drew | apply Upd.alloc) | refine Upd0.tr ?_ (by with_reducible assumption) | refine Upd.setCell ?_ (fun h => absurd h (by first | exact Nat.lt_irrefl _ | (simp only []; omega))) _)⟩
        | true =>
          have hf := Lib.hid (all_take hno.out hxh.out hp)
          have hph := Lib.hid hp
          clear hp
          obtain ⟨nm, ty⟩ := y
          simp only [Qn.val] at hbw
          go_wp2_with (first
            | (go_at_call 46; (with_reducible refine (hbw.out _).use ?_); rintro v w2 ⟨rfl, hu2⟩; rw [hph.out])
            | (with_reducible refine wp_serial (by kernel_rfl) (by kernel_rfl) (by repeat with_reducible (first | apply NoBad.then | apply NoBad.inBlock | apply NoBad.jump | exact NoBad.rets)) ?_) | fail)
          go_roundw
          case rel => exact ⟨j + 1, by omega, by go_num, (by repeat first | with_reducible (first | exact Upd.refl _ _ | assumption | apply Upd.drew | apply Upd.alloc) | refine Upd0.tr ?_ (by with_reducible assumption) | refine Upd.setCell ?_ (fun h => absurd h (by first | exact Nat.lt_irrefl _ | (simp only []; omega))) _), hu2.block (fun h => h) hbh.out, hf⟩
          case measure => simp [intOf]; omega
      · have hf := Lib.hid (all_end hno.out (by omega))
        cases sa
        all_goals cases sn
        all_goals cases sx
        all_goals
          go_wp2_with (first
            | (go_at_call 47; (with_reducible refine (hA.out _ (by repeat first | with_reducible (first | exact Upd.refl _ _ | assumption | apply Upd.drew | apply Upd.alloc) | refine Upd0.tr ?_ (by with_reducible assumption) | refine Upd.setCell ?_ (fun h => absurd h (by first | exact Nat.lt_irrefl _ | (simp only []; omega))) _)).use ?_); rintro v w1 ⟨rfl, hu1⟩; have bc1 := Lib.hid (show w1.heap[w.heap.size]? = some (.cells #[.int .i64 id, .bool re, .int .i64 op, .bool au, .bool tr, .bool wa, .bool av, .int .i64 rc, .slice q qs.length cq, .slice a an.length ca, .slice n ns.length cn, .slice x ex.length cx, .int .i64 0] 25 (0, 0)) from hu1.block (fun h => h) hbh.out); obtain ⟨c10, c11, c12, c13, c14, c15, c16, c17, c18, c19, c110, c111, c112⟩ := cell13w bc1.out; have hlc1 := blk_lt bc1.out; have nec1 : ¬ w.heap.size = w1.heap.size := (by omega); have nfc1 : ¬ w1.heap.size = w.heap.size := (by omega))
            | (go_at_call 47; (with_reducible refine (hN.out _ (by repeat first | with_reducible (first | exact Upd.refl _ _ | assumption | apply Upd.drew | apply Upd.alloc) | refine Upd0.tr ?_ (by with_reducible assumption) | refine Upd.setCell ?_ (fun h => absurd h (by first | exact Nat.lt_irrefl _ | (simp only []; omega))) _)).use ?_); rintro v w2 ⟨rfl, hu2⟩; have bc2 := Lib.hid (show w2.heap[w.heap.size]? = some (.cells #[.int .i64 id, .bool re, .int .i64 op, .bool au, .bool tr, .bool wa, .bool av, .int .i64 rc, .slice q qs.length cq, .slice a an.length ca, .slice n ns.length cn, .slice x ex.length cx, .int .i64 0] 25 (0, 0)) from hu2.block (fun h => h) (by first | exact bc1.out | exact blk_alloc bc1.out | exact blk_alloc (blk_alloc bc1.out) | exact blk_alloc (blk_alloc (blk_alloc bc1.out)))); obtain ⟨c20, c21, c22, c23, c24, c25, c26, c27, c28, c29, c210, c211, c212⟩ := cell13w bc2.out; have hlc2 := blk_lt bc2.out; have nec2 : ¬ w.heap.size = w2.heap.size := (by omega); have nfc2 : ¬ w2.heap.size = w.heap.size := (by omega))
            | (go_at_call 47; (with_reducible refine (hX.out _ (by repeat first | with_reducible (first | exact Upd.refl _ _ | assumption | apply Upd.drew | apply Upd.alloc) | refine Upd0.tr ?_ (by with_reducible assumption) | refine Upd.setCell ?_ (fun h => absurd h (by first | exact Nat.lt_irrefl _ | (simp only []; omega))) _)).use ?_); rintro v w3 ⟨rfl, hu3⟩)
            | (with_reducible refine wp_serial (by kernel_rfl) (by kernel_rfl) (by repeat with_reducible (first | apply NoBad.then | apply NoBad.inBlock | apply NoBad.jump | exact NoBad.rets)) ?_) | fail)
          all_goals go_returns
          all_goals exact ⟨by rw [hCC.out, hf.out]; rfl, (by repeat first | with_reducible (first | exact Upd.refl _ _ | assumption | apply Upd.drew | apply Upd.alloc) | refine Upd0.tr ?_ (by with_reducible assumption) | refine Upd.setCell ?_ (fun h => absurd h (by first | exact Nat.lt_irrefl _ | (simp only []; omega))) _)⟩
  ·
    go_enter Try.func21, Try.ntmps21
    go_wp2_with (first | (with_reducible refine wp_serial (by kernel_rfl) (by kernel_rfl) (by repeat with_reducible (first | apply NoBad.then | apply NoBad.inBlock | apply NoBad.jump | exact NoBad.rets)) ?_) | fail)
    go_loopw [3] (fun jj wr => ∃ j : Nat, j ≤ qs.length ∧ jj = .int .i64 j ∧ Upd0 w wr ∧ wr.heap[w.heap.size]? = some (.cells #[.int .i64 id, .bool re, .int .i64 op, .bool au, .bool tr, .bool wa, .bool av, .int .i64 rc, .slice q qs.length cq, .slice a an.length ca, .slice n ns.length cn, .slice x ex.length cx, .int .i64 sz] 25 (0, 0)) ∧ Hid ((qs.take j).all Qn.ok = true)) (fun jj _ => qs.length - (intOf jj).toNat)
    case atStart => exact ⟨0, Nat.zero_le _, rfl, (by repeat first | with_reducible (first | exact Upd.refl _ _ | assumption | apply Upd.drew | apply Upd.alloc) | refine Upd0.tr ?_ (by with_reducible assumption) | refine Upd.setCell ?_ (fun h => absurd h (by first | exact Nat.lt_irrefl _ | (simp only []; omega))) _), alloc_last _ _ _ rfl, Lib.hid rfl⟩
    case round =>
      obtain ⟨j, hj, rfl, hu, hb, hno⟩ := hrel
      obtain ⟨m0, m1, m2, m3, m4, m5, m6, m7, m8, m9, mA, mB, mC⟩ := cell13w hb
      have hbh := Lib.hid hb
      have hsz := blk_lt hb
      clear hb
      by_cases hlt : j < qs.length
      · obtain ⟨y, hx⟩ : ∃ x, qs[j]? = some x := ⟨qs[j], List.getElem?_eq_getElem hlt⟩
        obtain ⟨g, o, rfl, hg, e0, e1⟩ := hh.out.qs.some hx
        have hgw : g < wr.heap.size := Nat.lt_of_lt_of_le hg hu.size
        have d0 := hu.cell (fun h => h) e0
        have d1 := hu.cell (fun h => h) e1
        have hxh := Lib.hid hx
        have hbw := Lib.hid (rquestion_w y (hlq.out y (List.mem_of_getElem? hx)))
        clear hx e0 e1
        cases hp : y.ok with
        | false =>
          have hf := Lib.hid (all_no hxh.out hp)
          have hph := Lib.hid hp
          clear hp
          obtain ⟨nm, ty⟩ := y
          simp only [Qn.val] at hbw
          go_wp2_with (first
            | (go_at_call 46; (with_reducible refine (hbw.out _).use ?_); rintro v w2 ⟨rfl, hu2⟩; rw [hph.out])
            | (with_reducible refine wp_serial (by kernel_rfl) (by kernel_rfl) (by repeat with_reducible (first | apply NoBad.then | apply NoBad.inBlock | apply NoBad.jump | exact NoBad.rets)) ?_) | fail)
          all_goals go_returns
          all_goals exact ⟨by rw [hCC.out, hf.out]; rfl, (by repeat first | with_reducible (first | exact Upd.refl _ _ | assumption | apply Upd.drew | apply Upd.alloc) | refine Upd0.tr ?_ (by with_reducible assumption) | refine Upd.setCell ?_ (fun h => absurd h (by first | exact Nat.lt_irrefl _ | (simp only []; omega))) _)⟩
        | true =>
          have hf := Lib.hid (all_take hno.out hxh.out hp)
          have hph := Lib.hid hp
          clear hp
          obtain ⟨nm, ty⟩ := y
          simp only [Qn.val] at hbw
          go_wp2_with (first
            | (go_at_call 46; (with_reducible refine (hbw.out _).use ?_); rintro v w2 ⟨rfl, hu2⟩; rw [hph.out])
            | (with_reducible refine wp_serial (by kernel_rfl) (by kernel_rfl) (by repeat with_reducible (first | apply NoBad.then | apply NoBad.inBlock | apply NoBad.jump | exact NoBad.rets)) ?_) | fail)
          go_roundw
          case rel => exact ⟨j + 1, by omega, by go_num, (by repeat first | with_reducible (first | exact Upd.refl _ _ | assumption | apply Upd.drew | apply Upd.alloc) | refine Upd0.tr ?_ (by with_reducible assumption) | refine Upd.setCell ?_ (fun h => absurd h (by first | exact Nat.lt_irrefl _ | (simp only []; omega))) _), hu2.block (fun h => h) hbh.out, hf⟩
          case measure => simp [intOf]; omega
      · have hf := Lib.hid (all_end hno.out (by omega))
        cases sa
        all_goals cases sn
        all_goals cases sx
        all_goals
          go_wp2_with (first
            | (go_at_call 47; (with_reducible refine (hA.out _ (by repeat first | with_reducible (first | exact Upd.refl _ _ | assumption | apply Upd.drew | apply Upd.alloc) | refine Upd0.tr ?_ (by with_reducible assumption) | refine Upd.setCell ?_ (fun h => absurd h (by first | exact Nat.lt_irrefl _ | (simp only []; omega))) _)).use ?_); rintro v w1 ⟨rfl, hu1⟩; have bc1 := Lib.hid (show w1.heap[w.heap.size]? = some (.cells #[.int .i64 id, .bool re, .int .i64 op, .bool au, .bool tr, .bool wa, .bool av, .int .i64 rc, .slice q qs.length cq, .slice a an.length ca, .slice n ns.length cn, .slice x ex.length cx, .int .i64 sz] 25 (0, 0)) from hu1.block (fun h => h) hbh.out); obtain ⟨c10, c11, c12, c13, c14, c15, c16, c17, c18, c19, c110, c111, c112⟩ := cell13w bc1.out; have hlc1 := blk_lt bc1.out; have nec1 : ¬ w.heap.size = w1.heap.size := (by omega); have nfc1 : ¬ w1.heap.size = w.heap.size := (by omega))
            | (go_at_call 47; (with_reducible refine (hN.out _ (by repeat first | with_reducible (first | exact Upd.refl _ _ | assumption | apply Upd.drew | apply Upd.alloc) | refine Upd0.tr ?_ (by with_reducible assumption) | refine Upd.setCell ?_ (fun h => absurd h (by first | exact Nat.lt_irrefl _ | (simp only []; omega))) _)).use ?_); rintro v w2 ⟨rfl, hu2⟩; have bc2 := Lib.hid (show w2.heap[w.heap.size]? = some (.cells #[.int .i64 id, .bool re, .int .i64 op, .bool au, .bool tr, .bool wa, .bool av, .int .i64 rc, .slice q qs.length cq, .slice a an.length ca, .slice n ns.length cn, .slice x ex.length cx, .int .i64 sz] 25 (0, 0)) from hu2.block (fun h => h) (by first | exact bc1.out | exact blk_alloc bc1.out | exact blk_alloc (blk_alloc bc1.out) | exact blk_alloc (blk_alloc (blk_alloc bc1.out)))); obtain ⟨c20, c21, c22, c23, c24, c25, c26, c27, c28, c29, c210, c211, c212⟩ := cell13w bc2.out; have hlc2 := blk_lt bc2.out; have nec2 : ¬ w.heap.size = w2.heap.size := (by omega); have nfc2 : ¬ w2.heap.size = w.heap.size := (by omega))
            | (go_at_call 47; (with_reducible refine (hX.out _ (by repeat first | with_reducible (first | exact Upd.refl _ _ | assumption | apply Upd.drew | apply Upd.alloc) | refine Upd0.tr ?_ (by with_reducible assumption) | refine Upd.setCell ?_ (fun h => absurd h (by first | exact Nat.lt_irrefl _ | (simp only []; omega))) _)).use ?_); rintro v w3 ⟨rfl, hu3⟩)
            | (with_reducible refine wp_serial (by kernel_rfl) (by kernel_rfl) (by repeat with_reducible (first | apply NoBad.then | apply NoBad.inBlock | apply NoBad.jump | exact NoBad.rets)) ?_) | fail)
          all_goals go_returns
          all_goals exact ⟨by rw [hCC.out, hf.out]; rfl, (by repeat first | with_reducible (first | exact Upd.refl _ _ | assumption | apply Upd.drew | apply Upd.alloc) | refine Upd0.tr ?_ (by with_reducible assumption) | refine Upd.setCell ?_ (fun h => absurd h (by first | exact Nat.lt_irrefl _ | (simp only []; omega))) _)⟩
end Go.Proofs.Ytgdejgfmhndbhaa
