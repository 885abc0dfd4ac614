/-
  WirePoints: the walk.
-/
import Derived.Test.YtgdejgfmhndbhaaWsW
namespace Go.Proofs.Ytgdejgfmhndbhaa
open Go.RowKit
set_option linter.unusedSimpArgs false
set_option linter.unusedVariables false
theorem pt_cells {t qq rr : Nat} (h1 : t / 256 = qq) (h2 : t % 256 = rr) (h3 : qq ≤ 63) (h4 : rr ≤ 255) : (#[.int .u8 0, .int .u8 0, .int .u8 0, .int .u8 0, .int .u8 0, .int .u8 2, .int .u8 0, .int .u8 0, .int .u8 0, .int .u8 0, .int .u8 0, .int .u8 0, .int .u8 1, .int .u8 97, .int .u8 0, .int .u8 0, .int .u8 1, .int .u8 0, .int .u8 1, .int .u8 (192 + (qq : Int)), .int .u8 (rr : Int), .int .u8 0, .int .u8 1, .int .u8 0, .int .u8 1] : Array Value) = (byt (ptB t)).toArray := by
  subst h1 h2
  have e1 : ((UInt8.ofNat (192 + t / 256)).toNat : Int) = 192 + ((t / 256 : Nat) : Int) := by rw [UInt8.toNat_ofNat']; omega
  have e2 : ((UInt8.ofNat (t % 256)).toNat : Int) = ((t % 256 : Nat) : Int) := by rw [UInt8.toNat_ofNat']; omega
  simp only [byt, ptB, List.map_cons, List.map_nil, e1, e2]
  rfl
set_option maxRecDepth 100000 in
set_option maxHeartbeats 8000000 in
theorem wirePoints_walk (tg : Int) (w : World) : Calls Try.prog 7 #[.int .i64 tg] w (Rets fun r w' => r = .bool true ∧ Upd0 w w') := by
  have ways : tg < 0 ∨ (¬ tg < 0 ∧ (16383 : Int) < tg) ∨ (¬ tg < 0 ∧ ¬ (16383 : Int) < tg) := by omega
  rcases ways with h1 | ⟨h1, h2⟩ | ⟨h1, h2⟩
  · skip
    go_enter Try.func7, Try.ntmps7
    go_wp2_with (first
      | (go_at_call 16; (with_reducible refine (wlive_w _).use ?_); rintro v wL ⟨rfl, huL⟩)
      | (with_reducible refine wp_serial (by kernel_rfl) (by kernel_rfl) (by (repeat (first | (with_reducible apply NoBad.then) | (with_reducible apply NoBad.inBlock) | (with_reducible apply NoBad.jump) | (with_reducible exact NoBad.rets))); done) ?_) | fail)
    all_goals (try go_returns)
    all_goals exact ⟨rfl, (by (repeat (first | (with_reducible exact Upd.refl _ _) | (with_reducible assumption) | (with_reducible apply Upd.drew) | (with_reducible apply Upd.alloc) | (refine Upd0.tr ?_ (by with_reducible assumption)) | (refine Upd.setCell ?_ (fun h => absurd h (by first | exact Nat.lt_irrefl _ | (simp only []; omega))) _))); done)⟩
  · skip
    go_enter Try.func7, Try.ntmps7
    go_wp2_with (first
      | (go_at_call 16; (with_reducible refine (wlive_w _).use ?_); rintro v wL ⟨rfl, huL⟩)
      | (with_reducible refine wp_serial (by kernel_rfl) (by kernel_rfl) (by (repeat (first | (with_reducible apply NoBad.then) | (with_reducible apply NoBad.inBlock) | (with_reducible apply NoBad.jump) | (with_reducible exact NoBad.rets))); done) ?_) | fail)
    all_goals (try go_returns)
    all_goals exact ⟨rfl, (by (repeat (first | (with_reducible exact Upd.refl _ _) | (with_reducible assumption) | (with_reducible apply Upd.drew) | (with_reducible apply Upd.alloc) | (refine Upd0.tr ?_ (by with_reducible assumption)) | (refine Upd.setCell ?_ (fun h => absurd h (by first | exact Nat.lt_irrefl _ | (simp only []; omega))) _))); done)⟩
  obtain ⟨t, rfl⟩ := Int.eq_ofNat_of_zero_le (show 0 ≤ tg by omega)
  have ht : t ≤ 16383 := by omega
  obtain ⟨qq, hqq⟩ : ∃ x, t / 256 = x := ⟨_, rfl⟩
  obtain ⟨rr, hrr⟩ : ∃ x, t % 256 = x := ⟨_, rfl⟩
  have hq63 : qq ≤ 63 := by omega
  have hr255 : rr ≤ 255 := by omega
  have hq : Int.tdiv (t : Int) 256 = (qq : Int) := by rw [← hqq]; rfl
  have hr : Int.tmod (t : Int) 256 = (rr : Int) := by rw [← hrr]; rfl
  have hqqh := Lib.hid hqq
  have hrrh := Lib.hid hrr
  clear hqq hrr
  have tkA : True := trivial
  by_cases h3 : 19 ≤ t
  · have hD := Lib.hid (fun (w' : World) => decode_bad (ptB t) 2 (pt_far h3 ht) (by decide) (by show 25 ≤ 70000; decide) w')
    have h4 : (19 : Int) ≤ (t : Int) := by omega
    go_enter Try.func7, Try.ntmps7
    go_wp2_with (first
      | ((show Go.wpList _ _ _ (Go.Oper.mk _ (Go.Op.convert _ _ (Go.Operand.tmp 26)) _ _ _ _ :: _) _ _); refine wpList_ofB rfl (.tmp 26) 38 9 rfl 5 Try.underlying38 Try.underlying5 Try.underlying9 rfl (l := ptB t) (B := 0) (cells_brD (by first | rfl | exact pt_cells hqqh.out hrrh.out hq63 hr255) rfl (alloc_last _ _ w.heap.size rfl) (by first | decide | (show 25 ≤ 1000; decide))) ?_)
      | (go_at_call 23; (with_reducible refine (hD.out _).use ?_); rintro v w3 ⟨q3, a3, n3, x3, cq3, ca3, cn3, cx3, rfl, hu3⟩)
      | (go_at_call 16; (with_reducible refine (wlive_w _).use ?_); rintro v wL ⟨rfl, huL⟩)
      | (with_reducible refine wp_serial (by kernel_rfl) (by kernel_rfl) (by (repeat (first | (with_reducible apply NoBad.then) | (with_reducible apply NoBad.inBlock) | (with_reducible apply NoBad.jump) | (with_reducible exact NoBad.rets))); done) ?_) | fail)
    all_goals (try go_returns)
    all_goals exact ⟨rfl, (by (repeat (first | (with_reducible exact Upd.refl _ _) | (with_reducible assumption) | (with_reducible apply Upd.drew) | (with_reducible apply Upd.alloc) | (refine Upd0.tr ?_ (by with_reducible assumption)) | (refine Upd.setCell ?_ (fun h => absurd h (by first | exact Nat.lt_irrefl _ | (simp only []; omega))) _))); done)⟩
  · have h4 : ¬ (19 : Int) ≤ (t : Int) := by omega
    by_cases h5 : t = 12
    · subst h5
      have hD := Lib.hid (show ∀ w', Calls Try.prog 23 #[.string ⟨(ptB 12).toArray⟩] w' (Rets fun r w'' => ∃ (i1 : Int) (b1 : Bool) (i2 : Int) (b2 b3 b4 b5 : Bool) (i3 : Int) (q a n x : Option Addr) (la ln lx cq ca cn cx : Nat) (i4 : Int), r = .tuple #[.agg #[.int .i64 i1, .bool b1, .int .i64 i2, .bool b2, .bool b3, .bool b4, .bool b5, .int .i64 i3, .slice q 2 cq, .slice a la ca, .slice n ln cn, .slice x lx cx, .int .i64 i4], .int .i64 0] ∧ QsR w'' q [⟨[1, 97], 1⟩, ⟨[1, 97], 1⟩] ∧ Upd0 w' w'') from fun w' => by
        have := decode_w (ptB 12) w' (by decide)
        unfold DecQ at this
        rw [decM, if_pos pt_12.1, pt_12.1] at this
        refine this.use ?_
        rintro v w'' ⟨q, a, n, x, cq, ca, cn, cx, rfl, hR, hu⟩
        have hR1 := hR.qs
        have e2 := pt_12.2
        generalize dcG (ptB 12) = M at hR1 e2 ⊢
        obtain ⟨id, re, op, au, tr, wa, av, rc, qs, an, ns, ex, sz⟩ := M
        simp only [] at hR1 e2
        subst e2
        exact ⟨_, _, _, _, _, _, _, _, q, a, n, x, _, _, _, cq, ca, cn, cx, _, rfl, hR1, hu⟩)
      go_enter Try.func7, Try.ntmps7
      go_wp2_with (first
        | ((show Go.wpList _ _ _ (Go.Oper.mk _ (Go.Op.convert _ _ (Go.Operand.tmp 26)) _ _ _ _ :: _) _ _); refine wpList_ofB rfl (.tmp 26) 38 9 rfl 5 Try.underlying38 Try.underlying5 Try.underlying9 rfl (l := ptB 12) (B := 0) (cells_brD (by first | rfl | exact pt_cells hqqh.out hrrh.out hq63 hr255) rfl (alloc_last _ _ w.heap.size rfl) (by first | decide | (show 25 ≤ 1000; decide))) ?_)
        | (go_at_call 23; (with_reducible refine (hD.out _).use ?_); rintro v w3 ⟨i1, b1, i2, b2, b3, b4, b5, i3, q3, a3, n3, x3, la, ln, lx, cq3, ca3, cn3, cx3, i4, rfl, hq3, hu3⟩; obtain ⟨g, o, rfl, hg, e0, e1⟩ := hq3.some (i := 1) (x := ⟨[1, 97], 1⟩) rfl)
        | (go_at_call 16; (with_reducible refine (wlive_w _).use ?_); rintro v wL ⟨rfl, huL⟩)
        | (with_reducible refine wp_serial (by kernel_rfl) (by kernel_rfl) (by (repeat (first | (with_reducible apply NoBad.then) | (with_reducible apply NoBad.inBlock) | (with_reducible apply NoBad.jump) | (with_reducible exact NoBad.rets))); done) ?_) | fail)
      all_goals (try go_returns)
      all_goals exact ⟨rfl, (by (repeat (first | (with_reducible exact Upd.refl _ _) | (with_reducible assumption) | (with_reducible apply Upd.drew) | (with_reducible apply Upd.alloc) | (refine Upd0.tr ?_ (by with_reducible assumption)) | (refine Upd.setCell ?_ (fun h => absurd h (by first | exact Nat.lt_irrefl _ | (simp only []; omega))) _))); done)⟩
    · have h6 : ((t : Int) == 12) = false := beq_eq_false_iff_ne.2 (by omega)
      have h7 : ¬ (t : Int) = 12 := by omega
      by_cases he : (dcE (ptB t)).e = 0
      · have hD := Lib.hid (show ∀ w', Calls Try.prog 23 #[.string ⟨(ptB t).toArray⟩] w' (Rets fun r w'' => ∃ (i1 : Int) (b1 : Bool) (i2 : Int) (b2 b3 b4 b5 : Bool) (i3 : Int) (q a n x : Option Addr) (la ln lx cq ca cn cx : Nat) (i4 : Int), r = .tuple #[.agg #[.int .i64 i1, .bool b1, .int .i64 i2, .bool b2, .bool b3, .bool b4, .bool b5, .int .i64 i3, .slice q 2 cq, .slice a la ca, .slice n ln cn, .slice x lx cx, .int .i64 i4], .int .i64 0] ∧ Upd0 w' w'') from fun w' => by
          have := decode_w (ptB t) w' (by show 25 ≤ 70000; decide)
          unfold DecQ at this
          rw [decM, if_pos he, he] at this
          refine this.use ?_
          rintro v w'' ⟨q, a, n, x, cq, ca, cn, cx, rfl, hR, hu⟩
          have e2 := pt_two he
          generalize dcG (ptB t) = M at e2 ⊢
          obtain ⟨id, re, op, au, tr, wa, av, rc, qs, an, ns, ex, sz⟩ := M
          simp only [] at e2
          exact ⟨id, re, op, au, tr, wa, av, rc, q, a, n, x, an.length, ns.length, ex.length, cq, ca, cn, cx, sz, by rw [← e2]; rfl, hu⟩)
        by_cases h8 : t = 14
        · subst h8
          go_enter Try.func7, Try.ntmps7
          go_wp2_with (first
            | ((show Go.wpList _ _ _ (Go.Oper.mk _ (Go.Op.convert _ _ (Go.Operand.tmp 26)) _ _ _ _ :: _) _ _); refine wpList_ofB rfl (.tmp 26) 38 9 rfl 5 Try.underlying38 Try.underlying5 Try.underlying9 rfl (l := ptB 14) (B := 0) (cells_brD (by first | rfl | exact pt_cells hqqh.out hrrh.out hq63 hr255) rfl (alloc_last _ _ w.heap.size rfl) (by first | decide | (show 25 ≤ 1000; decide))) ?_)
            | (go_at_call 23; (with_reducible refine (hD.out _).use ?_); rintro v w3 ⟨i1, b1, i2, b2, b3, b4, b5, i3, q3, a3, n3, x3, la, ln, lx, cq3, ca3, cn3, cx3, i4, rfl, hu3⟩)
            | (go_at_call 16; (with_reducible refine (wlive_w _).use ?_); rintro v wL ⟨rfl, huL⟩)
            | (with_reducible refine wp_serial (by kernel_rfl) (by kernel_rfl) (by (repeat (first | (with_reducible apply NoBad.then) | (with_reducible apply NoBad.inBlock) | (with_reducible apply NoBad.jump) | (with_reducible exact NoBad.rets))); done) ?_) | fail)
          all_goals (try go_returns)
          all_goals exact ⟨rfl, (by (repeat (first | (with_reducible exact Upd.refl _ _) | (with_reducible assumption) | (with_reducible apply Upd.drew) | (with_reducible apply Upd.alloc) | (refine Upd0.tr ?_ (by with_reducible assumption)) | (refine Upd.setCell ?_ (fun h => absurd h (by first | exact Nat.lt_irrefl _ | (simp only []; omega))) _))); done)⟩
        · have h9 : ((t : Int) == 14) = false := beq_eq_false_iff_ne.2 (by omega)
          have hA : ¬ (t : Int) = 14 := by omega
          go_enter Try.func7, Try.ntmps7
          go_wp2_with (first
            | ((show Go.wpList _ _ _ (Go.Oper.mk _ (Go.Op.convert _ _ (Go.Operand.tmp 26)) _ _ _ _ :: _) _ _); refine wpList_ofB rfl (.tmp 26) 38 9 rfl 5 Try.underlying38 Try.underlying5 Try.underlying9 rfl (l := ptB t) (B := 0) (cells_brD (by first | rfl | exact pt_cells hqqh.out hrrh.out hq63 hr255) rfl (alloc_last _ _ w.heap.size rfl) (by first | decide | (show 25 ≤ 1000; decide))) ?_)
            | (go_at_call 23; (with_reducible refine (hD.out _).use ?_); rintro v w3 ⟨i1, b1, i2, b2, b3, b4, b5, i3, q3, a3, n3, x3, la, ln, lx, cq3, ca3, cn3, cx3, i4, rfl, hu3⟩)
            | (go_at_call 16; (with_reducible refine (wlive_w _).use ?_); rintro v wL ⟨rfl, huL⟩)
            | (with_reducible refine wp_serial (by kernel_rfl) (by kernel_rfl) (by (repeat (first | (with_reducible apply NoBad.then) | (with_reducible apply NoBad.inBlock) | (with_reducible apply NoBad.jump) | (with_reducible exact NoBad.rets))); done) ?_) | fail)
          all_goals (try go_returns)
          all_goals exact ⟨rfl, (by (repeat (first | (with_reducible exact Upd.refl _ _) | (with_reducible assumption) | (with_reducible apply Upd.drew) | (with_reducible apply Upd.alloc) | (refine Upd0.tr ?_ (by with_reducible assumption)) | (refine Upd.setCell ?_ (fun h => absurd h (by first | exact Nat.lt_irrefl _ | (simp only []; omega))) _))); done)⟩
      · obtain ⟨e, hee⟩ : ∃ e, (dcE (ptB t)).e = e := ⟨_, rfl⟩
        have hD := Lib.hid (fun (w' : World) => decode_bad (ptB t) e hee (by rw [← hee]; exact he) (by show 25 ≤ 70000; decide) w')
        have he2 : (e != 0) = true := bne_iff_ne.2 (by rw [← hee]; exact he)
        clear hee he
        go_enter Try.func7, Try.ntmps7
        go_wp2_with (first
          | ((show Go.wpList _ _ _ (Go.Oper.mk _ (Go.Op.convert _ _ (Go.Operand.tmp 26)) _ _ _ _ :: _) _ _); refine wpList_ofB rfl (.tmp 26) 38 9 rfl 5 Try.underlying38 Try.underlying5 Try.underlying9 rfl (l := ptB t) (B := 0) (cells_brD (by first | rfl | exact pt_cells hqqh.out hrrh.out hq63 hr255) rfl (alloc_last _ _ w.heap.size rfl) (by first | decide | (show 25 ≤ 1000; decide))) ?_)
          | (go_at_call 23; (with_reducible refine (hD.out _).use ?_); rintro v w3 ⟨q3, a3, n3, x3, cq3, ca3, cn3, cx3, rfl, hu3⟩)
          | (go_at_call 16; (with_reducible refine (wlive_w _).use ?_); rintro v wL ⟨rfl, huL⟩)
          | (with_reducible refine wp_serial (by kernel_rfl) (by kernel_rfl) (by (repeat (first | (with_reducible apply NoBad.then) | (with_reducible apply NoBad.inBlock) | (with_reducible apply NoBad.jump) | (with_reducible exact NoBad.rets))); done) ?_) | fail)
        all_goals (try go_returns)
        all_goals exact ⟨rfl, (by (repeat (first | (with_reducible exact Upd.refl _ _) | (with_reducible assumption) | (with_reducible apply Upd.drew) | (with_reducible apply Upd.alloc) | (refine Upd0.tr ?_ (by with_reducible assumption)) | (refine Upd.setCell ?_ (fun h => absurd h (by first | exact Nat.lt_irrefl _ | (simp only []; omega))) _))); done)⟩
end Go.Proofs.Ytgdejgfmhndbhaa
