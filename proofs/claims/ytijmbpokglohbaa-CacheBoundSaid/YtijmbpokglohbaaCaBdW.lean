/-
  The walk of CacheBound: there are never more entries than room; what is told was put.
-/
import Derived.Test.YtijmbpokglohbaaCaBd
namespace Go.Proofs.Ytijmbpokglohbaa
open Go.RowKit Go.Maps
set_option linter.unusedSimpArgs false
set_option linter.unusedVariables false
theorem keepO {w w' : World} {b : Nat} {c : Array Value} {f : Nat × Nat} {B : Nat} (h : w.heap[b]? = some (.cells c 62 f)) (k : UpdQ B w w') : w'.heap[b]? = some (.cells c 62 f) := k.block (fun hk => by rw [h] at hk; exact absurd hk.2 (by simp [kindQ])) h
theorem rtexts3_w (ao bo : Option Addr) (ca cb : Nat) (L M : List Bs) (w : World) (hL : SR w ao L) (hM : SR w bo M) (h2 : M.length ≤ 1000000) :
    Calls Try.prog 40 #[.slice ao L.length ca, .slice bo M.length cb] w (Rets fun r w' => r = .bool (L == M) ∧ Upd0 w w') := by
  by_cases h1 : L.length ≤ 1000000
  · exact rtexts2_w ao bo ca cb L M w hL hM h1 h2
  · have hst := Lib.hid (show (L == M) = false by rw [beq_eq_false_iff_ne]; rintro rfl; exact h1 h2)
    have hnn : ((L.length : Int) != (M.length : Int)) = true := by rw [bne_iff_ne]; omega
    go_enter Try.func40, Try.ntmps40
    go_wp2_with (first | (with_reducible refine wp_serial (by kernel_rfl) (by kernel_rfl) (by repeat with_reducible (first | apply NoBad.then | apply NoBad.inBlock | apply NoBad.jump | exact NoBad.rets)) ?_) | fail)
    all_goals go_returns
    all_goals exact ⟨by rw [hst.out]; rfl, (by repeat first | with_reducible (first | exact Upd.refl _ _ | assumption | apply Upd.drew | apply Upd.alloc) | refine Upd0.tr ?_ (by with_reducible assumption) | refine Upd.setCell ?_ (fun h => absurd h (by first | exact Nat.lt_irrefl _ | (simp only []; omega))) _)⟩
theorem bd_take {xs : List OpE} {j : Nat} {p : OpE} {f : OpE → Bool} (h : xs[j]? = some p) : (xs.take (j + 1)).any f = ((xs.take j).any f || f p) := by
  rw [List.take_add_one, h]
  simp [List.any_append]
set_option maxRecDepth 100000 in
set_option maxHeartbeats 8000000 in
theorem cacheBound_walk (room : Int) (aox : Option Addr) (capx : Nat) (xs : List OpE) (w : World) (hX : OpeR w aox xs) (hxl : xs.length ≤ maxLen) :
    Calls Try.prog 12 #[.int .i64 room, .slice aox xs.length capx] w (Rets fun r w' => r = .bool true ∧ Upd0 w w') := by
  have hXh := Lib.hid hX
  clear hX
  simp only [maxLen] at hxl
  by_cases hr : 1 ≤ room ∧ room ≤ 200
  case neg =>
    have hm : ¬ (1 ≤ room ∧ room ≤ 200 ∧ (1 : Int) ≤ 1000 ∧ (1000 : Int) ≤ 2147483647) := fun h => hr ⟨h.1, h.2.1⟩
    go_enter Try.func12, Try.ntmps12
    go_wp2_with (first
      | (go_at_call 31; (with_reducible refine (cnew_no room 1000 hm _).use ?_); rintro v w2 ⟨rfl, hu2⟩; have U2 : Upd0 w w2 := (by repeat first | with_reducible (first | exact Upd.refl _ _ | assumption | apply Upd.drew | apply Upd.alloc) | refine Upd0.tr ?_ (by with_reducible assumption) | refine Upd.setCell ?_ (fun h => absurd h (by first | exact Nat.lt_irrefl _ | (simp only []; omega))) _))
      | (go_at_call 32; (with_reducible refine (clive_w _).use ?_); rintro v wl ⟨rfl, hul⟩)
      | (with_reducible refine wp_serial (by kernel_rfl) (by kernel_rfl) (by repeat with_reducible (first | apply NoBad.then | apply NoBad.inBlock | apply NoBad.jump | exact NoBad.rets)) ?_) | fail)
    all_goals go_returns
    all_goals exact ⟨rfl, show Upd0 w _ from U2.tr (by repeat first | with_reducible (first | exact Upd.refl _ _ | assumption | apply Upd.drew | apply Upd.alloc) | refine Upd0.tr ?_ (by with_reducible assumption) | refine Upd.setCell ?_ (fun h => absurd h (by first | exact Nat.lt_irrefl _ | (simp only []; omega))) _)⟩
  case pos =>
    go_enter Try.func12, Try.ntmps12
    go_wp2_with (first
      | (go_at_call 31; (with_reducible refine (cnew_w room 1000 hr.1 hr.2 (by decide) (by decide) _).use ?_); rintro v w2 ⟨t, rfl, hu2, hc2⟩; have U2 : Upd0 w w2 := (by repeat first | with_reducible (first | exact Upd.refl _ _ | assumption | apply Upd.drew | apply Upd.alloc) | refine Upd0.tr ?_ (by with_reducible assumption) | refine Upd.setCell ?_ (fun h => absurd h (by first | exact Nat.lt_irrefl _ | (simp only []; omega))) _); have C2 := Lib.hid (show Ca w.heap.size w2 t ⟨room, 1000, 0, []⟩ from hc2); have z2 := U2.size; clear hc2)
      | (with_reducible refine wp_serial (by kernel_rfl) (by kernel_rfl) (by repeat with_reducible (first | apply NoBad.then | apply NoBad.inBlock | apply NoBad.jump | exact NoBad.rets)) ?_) | fail)
    have hI0 := Lib.hid (bd_start room hr.1 hr.2 xs)
    go_loopw [7] (fun i wr => ∃ (k : Nat) (c : CS), k ≤ xs.length ∧ i = .int .i64 k ∧ Upd0 w wr ∧ Hid (Ca w.heap.size wr t c) ∧ Hid (BdI room xs c k)) (fun i _ => xs.length - (intOf i).toNat)
    case atStart => exact ⟨0, _, Nat.zero_le _, rfl, U2, C2, hI0⟩
    case round =>
      obtain ⟨k, c, hk, rfl, hu, hC, hI⟩ := hrel
      have zr := hu.size
      by_cases hlt : k < xs.length ∧ k < 60
      case neg =>
        have hx : ¬ k < xs.length ∨ (k < xs.length ∧ ¬ k < 60) := by omega
        clear hlt
        rcases hx with hx | ⟨hx, hx2⟩
        · skip
          go_wp2_with (first
            | (go_at_call 32; (with_reducible refine (clive_w _).use ?_); rintro v wl ⟨rfl, hul⟩)
            | (with_reducible refine wp_serial (by kernel_rfl) (by kernel_rfl) (by repeat with_reducible (first | apply NoBad.then | apply NoBad.inBlock | apply NoBad.jump | exact NoBad.rets)) ?_) | fail)
          all_goals go_returns
          all_goals exact ⟨rfl, show Upd0 w _ from hu.tr (by repeat first | with_reducible (first | exact Upd.refl _ _ | assumption | apply Upd.drew | apply Upd.alloc) | refine Upd0.tr ?_ (by with_reducible assumption) | refine Upd.setCell ?_ (fun h => absurd h (by first | exact Nat.lt_irrefl _ | (simp only []; omega))) _)⟩
        · skip
          go_wp2_with (first
            | (go_at_call 32; (with_reducible refine (clive_w _).use ?_); rintro v wl ⟨rfl, hul⟩)
            | (with_reducible refine wp_serial (by kernel_rfl) (by kernel_rfl) (by repeat with_reducible (first | apply NoBad.then | apply NoBad.inBlock | apply NoBad.jump | exact NoBad.rets)) ?_) | fail)
          all_goals go_returns
          all_goals exact ⟨rfl, show Upd0 w _ from hu.tr (by repeat first | with_reducible (first | exact Upd.refl _ _ | assumption | apply Upd.drew | apply Upd.alloc) | refine Upd0.tr ?_ (by with_reducible assumption) | refine Upd.setCell ?_ (fun h => absurd h (by first | exact Nat.lt_irrefl _ | (simp only []; omega))) _)⟩
      case pos =>
        obtain ⟨hlt, hl60⟩ := hlt
        obtain ⟨x, hx⟩ : ∃ x, xs[k]? = some x := ⟨xs[k], List.getElem?_eq_getElem hlt⟩
        obtain ⟨g, o, rfl, hg, hxo, p0, p1, p2, p3, p4, p5, p6⟩ := (hXh.out.up hu).some hx
        have hxh := Lib.hid hx
        have hxoh := Lib.hid ((hXh.out).some hx)
        clear hxo hx
        obtain ⟨dO, sx, aX, capX, rkX, nowX⟩ := x
        obtain ⟨nmx, tyx, tlx, dtx⟩ := sx
        have hSX : SR w aX dtx ∧ (Lit.int .i64 tyx).wf = true := by
          obtain ⟨g', o', h1, h2, h3, h4⟩ := hxoh.out
          exact h3
        obtain ⟨hSX, htyx⟩ := hSX
        simp only [] at p0 p1 p2 p3 p4 p5 p6
        have hxX := Lib.hid hSX
        have hwx := Lib.hid (fun (w' : World) (k : SR w' aX dtx) => cshort_w ⟨nmx, tyx, tlx, dtx⟩ aX capX w' k)
        clear hxoh hSX
        cases hfx : fewS ⟨nmx, tyx, tlx, dtx⟩ with
        | false =>
          rw [hfx] at hwx
          simp only [St.val] at hwx
          clear hfx
          go_wp2_with (first
            | (go_at_call 33; (with_reducible refine (hwx.out _ ((hxX.out.up hu).up (by repeat first | with_reducible (first | exact Upd.refl _ _ | assumption | apply Upd.drew | apply Upd.alloc) | refine Upd0.tr ?_ (by with_reducible assumption) | refine Upd.setCell ?_ (fun h => absurd h (by first | exact Nat.lt_irrefl _ | (simp only []; omega))) _))).use ?_); rintro v w1 ⟨rfl, hu1⟩; have U1 : Upd0 wr w1 := (by repeat first | with_reducible (first | exact Upd.refl _ _ | assumption | apply Upd.drew | apply Upd.alloc) | refine Upd0.tr ?_ (by with_reducible assumption) | refine Upd.setCell ?_ (fun h => absurd h (by first | exact Nat.lt_irrefl _ | (simp only []; omega))) _); have y1 := Lib.hid (hu1.block (fun h => h) (alloc_last _ _ wr.heap.size rfl)); have yc := set7 y1.out; obtain ⟨c0, c1, c2, c3, c4, c5, c6⟩ := yc; have z1 := U1.size; have l1 := blk_lt y1.out; have xg1 := Nat.lt_of_lt_of_le hg z1)
            | (go_at_call 32; (with_reducible refine (clive_w _).use ?_); rintro v wl ⟨rfl, hul⟩)
            | (with_reducible refine wp_serial (by kernel_rfl) (by kernel_rfl) (by repeat with_reducible (first | apply NoBad.then | apply NoBad.inBlock | apply NoBad.jump | exact NoBad.rets)) ?_) | fail)
          all_goals go_returns
          all_goals exact ⟨rfl, show Upd0 w _ from (hu.tr U1).tr (by repeat first | with_reducible (first | exact Upd.refl _ _ | assumption | apply Upd.drew | apply Upd.alloc) | refine Upd0.tr ?_ (by with_reducible assumption) | refine Upd.setCell ?_ (fun h => absurd h (by first | exact Nat.lt_irrefl _ | (simp only []; omega))) _)⟩
        | true =>
          rw [hfx] at hwx
          simp only [St.val] at hwx
          by_cases n1 : nowX < 0
          · clear hfx
            go_wp2_with (first
              | (go_at_call 33; (with_reducible refine (hwx.out _ ((hxX.out.up hu).up (by repeat first | with_reducible (first | exact Upd.refl _ _ | assumption | apply Upd.drew | apply Upd.alloc) | refine Upd0.tr ?_ (by with_reducible assumption) | refine Upd.setCell ?_ (fun h => absurd h (by first | exact Nat.lt_irrefl _ | (simp only []; omega))) _))).use ?_); rintro v w1 ⟨rfl, hu1⟩; have U1 : Upd0 wr w1 := (by repeat first | with_reducible (first | exact Upd.refl _ _ | assumption | apply Upd.drew | apply Upd.alloc) | refine Upd0.tr ?_ (by with_reducible assumption) | refine Upd.setCell ?_ (fun h => absurd h (by first | exact Nat.lt_irrefl _ | (simp only []; omega))) _); have y1 := Lib.hid (hu1.block (fun h => h) (alloc_last _ _ wr.heap.size rfl)); have yc := set7 y1.out; obtain ⟨c0, c1, c2, c3, c4, c5, c6⟩ := yc; have z1 := U1.size; have l1 := blk_lt y1.out; have xg1 := Nat.lt_of_lt_of_le hg z1)
              | (go_at_call 32; (with_reducible refine (clive_w _).use ?_); rintro v wl ⟨rfl, hul⟩)
              | (with_reducible refine wp_serial (by kernel_rfl) (by kernel_rfl) (by repeat with_reducible (first | apply NoBad.then | apply NoBad.inBlock | apply NoBad.jump | exact NoBad.rets)) ?_) | fail)
            all_goals go_returns
            all_goals exact ⟨rfl, show Upd0 w _ from (hu.tr U1).tr (by repeat first | with_reducible (first | exact Upd.refl _ _ | assumption | apply Upd.drew | apply Upd.alloc) | refine Upd0.tr ?_ (by with_reducible assumption) | refine Upd.setCell ?_ (fun h => absurd h (by first | exact Nat.lt_irrefl _ | (simp only []; omega))) _)⟩
          by_cases n2 : 1000000 < nowX
          · clear hfx
            go_wp2_with (first
              | (go_at_call 33; (with_reducible refine (hwx.out _ ((hxX.out.up hu).up (by repeat first | with_reducible (first | exact Upd.refl _ _ | assumption | apply Upd.drew | apply Upd.alloc) | refine Upd0.tr ?_ (by with_reducible assumption) | refine Upd.setCell ?_ (fun h => absurd h (by first | exact Nat.lt_irrefl _ | (simp only []; omega))) _))).use ?_); rintro v w1 ⟨rfl, hu1⟩; have U1 : Upd0 wr w1 := (by repeat first | with_reducible (first | exact Upd.refl _ _ | assumption | apply Upd.drew | apply Upd.alloc) | refine Upd0.tr ?_ (by with_reducible assumption) | refine Upd.setCell ?_ (fun h => absurd h (by first | exact Nat.lt_irrefl _ | (simp only []; omega))) _); have y1 := Lib.hid (hu1.block (fun h => h) (alloc_last _ _ wr.heap.size rfl)); have yc := set7 y1.out; obtain ⟨c0, c1, c2, c3, c4, c5, c6⟩ := yc; have z1 := U1.size; have l1 := blk_lt y1.out; have xg1 := Nat.lt_of_lt_of_le hg z1)
              | (go_at_call 32; (with_reducible refine (clive_w _).use ?_); rintro v wl ⟨rfl, hul⟩)
              | (with_reducible refine wp_serial (by kernel_rfl) (by kernel_rfl) (by repeat with_reducible (first | apply NoBad.then | apply NoBad.inBlock | apply NoBad.jump | exact NoBad.rets)) ?_) | fail)
            all_goals go_returns
            all_goals exact ⟨rfl, show Upd0 w _ from (hu.tr U1).tr (by repeat first | with_reducible (first | exact Upd.refl _ _ | assumption | apply Upd.drew | apply Upd.alloc) | refine Upd0.tr ?_ (by with_reducible assumption) | refine Upd.setCell ?_ (fun h => absurd h (by first | exact Nat.lt_irrefl _ | (simp only []; omega))) _)⟩
          have n0 : ¬ (k : Int) < 0 := by omega
          by_cases hk0 : k = 0
          · subst hk0
            simp only [Nat.zero_mul, Nat.add_zero] at p0 p1 p2 p3 p4 p5 p6
            have hle := Lib.hid (show ∀ q, 0 < 0 → xs[0 - 1]? = some q → q.now ≤ nowX from fun q h => absurd h (by omega))
            by_cases hd : dO = 0
            · as_aux_lemma =>
                subst hd
                have hN : c.N ≤ 1000000 := by have := hI.out.n; omega
                have hIn := Lib.hid (bd_put hI.out hxh.out hle.out hfx rfl (by simp only []; omega))
                have hlen : ((putS c ⟨nmx, tyx, tlx, dtx⟩ rkX nowX).L.length : Int) ≤ room := by have h1 := hIn.out.ok.len; rw [hIn.out.room] at h1; exact h1
                have hlen2 : ¬ room < ((putS c ⟨nmx, tyx, tlx, dtx⟩ rkX nowX).L.length : Int) := by omega
                have hPx := Lib.hid (fun (t : Nat) (w' : World) (hB : w.heap.size ≤ w'.heap.size) (h : Ca w.heap.size w' t c) (k : Stay w.heap.size w' aX dtx) => (show Calls Try.prog 34 #[.pointer (some ⟨t, 0, none⟩), .agg #[.string ⟨nmx.toArray⟩, .int .i64 tyx, .int .i64 tlx, .slice aX dtx.length capX], .int .i64 rkX, .int .i64 nowX] w' (Rets fun r w'' => ∃ f, r = .int .i64 f ∧ UpdQ w.heap.size w' w'' ∧ Ca w.heap.size w'' t (putS c ⟨nmx, tyx, tlx, dtx⟩ rkX nowX)) from (cput_w t c ⟨nmx, tyx, tlx, dtx⟩ aX capX rkX nowX w' hI.out.ok hN hfx hB h k).use fun v w'' ⟨e, hu, hc⟩ => ⟨_, e, hu, hc⟩))
                clear hfx
                go_wp2_with (first
                  | (go_at_call 33; (with_reducible refine (hwx.out _ ((hxX.out.up hu).up (by repeat first | with_reducible (first | exact Upd.refl _ _ | assumption | apply Upd.drew | apply Upd.alloc) | refine Upd0.tr ?_ (by with_reducible assumption) | refine Upd.setCell ?_ (fun h => absurd h (by first | exact Nat.lt_irrefl _ | (simp only []; omega))) _))).use ?_); rintro v w1 ⟨rfl, hu1⟩; have U1 : Upd0 wr w1 := (by repeat first | with_reducible (first | exact Upd.refl _ _ | assumption | apply Upd.drew | apply Upd.alloc) | refine Upd0.tr ?_ (by with_reducible assumption) | refine Upd.setCell ?_ (fun h => absurd h (by first | exact Nat.lt_irrefl _ | (simp only []; omega))) _); have y1 := Lib.hid (hu1.block (fun h => h) (alloc_last _ _ wr.heap.size rfl)); have yc := set7 y1.out; obtain ⟨c0, c1, c2, c3, c4, c5, c6⟩ := yc; have z1 := U1.size; have l1 := blk_lt y1.out; have xg1 := Nat.lt_of_lt_of_le hg z1)
                  | (go_at_call 34; (with_reducible refine (hPx.out t _ (Nat.le_trans zr z1) (hC.out.to0 U1) (Stay.of hxX.out (hu.tr U1))).use ?_); rintro v w2 ⟨f, rfl, hq2, hc2⟩; have U2x : Upd0 w w2 := UpdQ.fin (hu.tr U1) hq2; have z2x := U2x.size; have C2x := Lib.hid hc2; clear hc2)
                  | (go_at_call 39; (with_reducible refine Calls.use (clen_c t _ _ (C2x.out.to0 (by repeat first | with_reducible (first | exact Upd.refl _ _ | assumption | apply Upd.drew | apply Upd.alloc) | refine Upd0.tr ?_ (by with_reducible assumption) | refine Upd.setCell ?_ (fun h => absurd h (by first | exact Nat.lt_irrefl _ | (simp only []; omega))) _))) ?_); rintro v w3 ⟨rfl, hu3⟩)
                  | (with_reducible refine wp_serial (by kernel_rfl) (by kernel_rfl) (by repeat with_reducible (first | apply NoBad.then | apply NoBad.inBlock | apply NoBad.jump | exact NoBad.rets)) ?_) | fail)
                go_roundw
                case rel => exact ⟨0 + 1, _, by omega, by go_num, show Upd0 w _ from U2x.tr (by repeat first | with_reducible (first | exact Upd.refl _ _ | assumption | apply Upd.drew | apply Upd.alloc) | refine Upd0.tr ?_ (by with_reducible assumption) | refine Upd.setCell ?_ (fun h => absurd h (by first | exact Nat.lt_irrefl _ | (simp only []; omega))) _), Lib.hid (C2x.out.to0 (show Upd0 w2 _ from (by repeat first | with_reducible (first | exact Upd.refl _ _ | assumption | apply Upd.drew | apply Upd.alloc) | refine Upd0.tr ?_ (by with_reducible assumption) | refine Upd.setCell ?_ (fun h => absurd h (by first | exact Nat.lt_irrefl _ | (simp only []; omega))) _))), hIn⟩
                case measure => simp [intOf]; omega
            · cases hh : hitB c nmx tyx nowX with
              | none =>
                as_aux_lemma =>
                  have hnm7 : nmx.length ≤ 70000 := by have := (fewS_num hfx).2.1; simp only [] at this; omega
                  have hGx := Lib.hid (fun (t : Nat) (w' : World) (h : Ca w.heap.size w' t c) => (show Calls Try.prog 36 #[.pointer (some ⟨t, 0, none⟩), .string ⟨nmx.toArray⟩, .int .i64 tyx, .int .i64 nowX] w' (Rets fun r w'' => r = .tuple #[.agg #[.string ⟨([] : Bs).toArray⟩, .int .i64 0, .int .i64 0, .slice none 0 0], .int .i64 0, .bool false] ∧ Upd0 w' w'') from cget_miss t c nmx tyx nowX w' hI.out.ok hnm7 htyx h hh))
                  have hlen : (c.L.length : Int) ≤ room := by have h1 := hI.out.ok.len; rw [hI.out.room] at h1; exact h1
                  have hlen2 : ¬ room < (c.L.length : Int) := by omega
                  have hIn := Lib.hid (bd_same hI.out hxh.out hle.out)
                  have hdb : (dO == 0) = false := beq_eq_false_iff_ne.2 hd
                  have htyh := Lib.hid htyx
                  clear hfx hh htyx
                  go_wp2_with (first
                    | (go_at_call 33; (with_reducible refine (hwx.out _ ((hxX.out.up hu).up (by repeat first | with_reducible (first | exact Upd.refl _ _ | assumption | apply Upd.drew | apply Upd.alloc) | refine Upd0.tr ?_ (by with_reducible assumption) | refine Upd.setCell ?_ (fun h => absurd h (by first | exact Nat.lt_irrefl _ | (simp only []; omega))) _))).use ?_); rintro v w1 ⟨rfl, hu1⟩; have U1 : Upd0 wr w1 := (by repeat first | with_reducible (first | exact Upd.refl _ _ | assumption | apply Upd.drew | apply Upd.alloc) | refine Upd0.tr ?_ (by with_reducible assumption) | refine Upd.setCell ?_ (fun h => absurd h (by first | exact Nat.lt_irrefl _ | (simp only []; omega))) _); have y1 := Lib.hid (show w1.heap[wr.heap.size]? = some (.cells #[.int .i64 dO, .string ⟨nmx.toArray⟩, .int .i64 tyx, .int .i64 tlx, .slice aX dtx.length capX, .int .i64 rkX, .int .i64 nowX] 62 (0, 0)) from hu1.block (fun h => h) (alloc_last _ _ wr.heap.size rfl)); have yc := set7 y1.out; obtain ⟨c0, c1, c2, c3, c4, c5, c6⟩ := yc; have z1 := U1.size; have l1 := blk_lt y1.out; have xg1 := Nat.lt_of_lt_of_le hg z1)
                    | (go_at_call 36; (with_reducible refine (hGx.out t _ (hC.out.to0 (show Upd0 wr _ from (by repeat first | with_reducible (first | exact Upd.refl _ _ | assumption | apply Upd.drew | apply Upd.alloc) | refine Upd0.tr ?_ (by with_reducible assumption) | refine Upd.setCell ?_ (fun h => absurd h (by first | exact Nat.lt_irrefl _ | (simp only []; omega))) _)))).use ?_); rintro v w2 ⟨rfl, hu2⟩; have V2 : Upd0 wr w2 := (by repeat first | with_reducible (first | exact Upd.refl _ _ | assumption | apply Upd.drew | apply Upd.alloc) | refine Upd0.tr ?_ (by with_reducible assumption) | refine Upd.setCell ?_ (fun h => absurd h (by first | exact Nat.lt_irrefl _ | (simp only []; omega))) _); have U2x : Upd0 w w2 := hu.tr V2; have C2x := Lib.hid (hC.out.to0 V2))
                    | (with_reducible refine wp_serial (by kernel_rfl) (by kernel_rfl) (by repeat with_reducible (first | apply NoBad.then | apply NoBad.inBlock | apply NoBad.jump | exact NoBad.rets)) ?_) | fail)
                  go_loopw [13, 12] (fun jv pv wx => jv = .int .i64 0 ∧ pv = .bool false ∧ Upd0 w wx ∧ Hid (Ca w.heap.size wx t c)) (fun _ _ _ => 0)
                  case atStart => exact ⟨rfl, rfl, U2x.tr (by repeat first | with_reducible (first | exact Upd.refl _ _ | assumption | apply Upd.drew | apply Upd.alloc) | refine Upd0.tr ?_ (by with_reducible assumption) | refine Upd.setCell ?_ (fun h => absurd h (by first | exact Nat.lt_irrefl _ | (simp only []; omega))) _), Lib.hid (C2x.out.to0 (show Upd0 w2 _ from (by repeat first | with_reducible (first | exact Upd.refl _ _ | assumption | apply Upd.drew | apply Upd.alloc) | refine Upd0.tr ?_ (by with_reducible assumption) | refine Upd.setCell ?_ (fun h => absurd h (by first | exact Nat.lt_irrefl _ | (simp only []; omega))) _)))⟩
                  case round =>
                    obtain ⟨rfl, rfl, hu5, hC5⟩ := hrel
                    go_wp2_with (first
                      | (go_at_call 39; (with_reducible refine Calls.use (clen_c t _ _ (hC5.out.to0 (by repeat first | with_reducible (first | exact Upd.refl _ _ | assumption | apply Upd.drew | apply Upd.alloc) | refine Upd0.tr ?_ (by with_reducible assumption) | refine Upd.setCell ?_ (fun h => absurd h (by first | exact Nat.lt_irrefl _ | (simp only []; omega))) _))) ?_); rintro v w9 ⟨rfl, hu9⟩)
                      | (with_reducible refine wp_serial (by kernel_rfl) (by kernel_rfl) (by repeat with_reducible (first | apply NoBad.then | apply NoBad.inBlock | apply NoBad.jump | exact NoBad.rets)) ?_) | fail)
                    go_roundw
                    case rel => exact ⟨0 + 1, c, by omega, by go_num, show Upd0 w _ from hu5.tr (by repeat first | with_reducible (first | exact Upd.refl _ _ | assumption | apply Upd.drew | apply Upd.alloc) | refine Upd0.tr ?_ (by with_reducible assumption) | refine Upd.setCell ?_ (fun h => absurd h (by first | exact Nat.lt_irrefl _ | (simp only []; omega))) _), Lib.hid (hC5.out.to0 (by repeat first | with_reducible (first | exact Upd.refl _ _ | assumption | apply Upd.drew | apply Upd.alloc) | refine Upd0.tr ?_ (by with_reducible assumption) | refine Upd.setCell ?_ (fun h => absurd h (by first | exact Nat.lt_irrefl _ | (simp only []; omega))) _)), hIn⟩
                    case measure => (simp [intOf]; try omega)
              | some e => exact absurd (bd_hit hI.out hxh.out hle.out hh).1 (by simp)
          · obtain ⟨kp, rfl⟩ : ∃ kp, k = kp + 1 := ⟨k - 1, by omega⟩
            obtain ⟨q, hq⟩ : ∃ q, xs[kp]? = some q := ⟨xs[kp]'(by omega), List.getElem?_eq_getElem _⟩
            obtain ⟨g2, o2, hgo, _, _, _, _, _, _, _, _, q6⟩ := (hXh.out.up hu).some hq
            cases hgo
            have hqh := Lib.hid hq
            clear hq
            by_cases n3 : nowX < q.now
            · clear hfx
              go_wp2_with (first
                | (go_at_call 33; (with_reducible refine (hwx.out _ ((hxX.out.up hu).up (by repeat first | with_reducible (first | exact Upd.refl _ _ | assumption | apply Upd.drew | apply Upd.alloc) | refine Upd0.tr ?_ (by with_reducible assumption) | refine Upd.setCell ?_ (fun h => absurd h (by first | exact Nat.lt_irrefl _ | (simp only []; omega))) _))).use ?_); rintro v w1 ⟨rfl, hu1⟩; have U1 : Upd0 wr w1 := (by repeat first | with_reducible (first | exact Upd.refl _ _ | assumption | apply Upd.drew | apply Upd.alloc) | refine Upd0.tr ?_ (by with_reducible assumption) | refine Upd.setCell ?_ (fun h => absurd h (by first | exact Nat.lt_irrefl _ | (simp only []; omega))) _); have y1 := Lib.hid (hu1.block (fun h => h) (alloc_last _ _ wr.heap.size rfl)); have yc := set7 y1.out; obtain ⟨c0, c1, c2, c3, c4, c5, c6⟩ := yc; have z1 := U1.size; have l1 := blk_lt y1.out; have xg1 := Nat.lt_of_lt_of_le hg z1; have q61 := U1.cell (fun h => h) q6)
                | (go_at_call 32; (with_reducible refine (clive_w _).use ?_); rintro v wl ⟨rfl, hul⟩)
                | (with_reducible refine wp_serial (by kernel_rfl) (by kernel_rfl) (by repeat with_reducible (first | apply NoBad.then | apply NoBad.inBlock | apply NoBad.jump | exact NoBad.rets)) ?_) | fail)
              all_goals go_returns
              all_goals exact ⟨rfl, show Upd0 w _ from (hu.tr U1).tr (by repeat first | with_reducible (first | exact Upd.refl _ _ | assumption | apply Upd.drew | apply Upd.alloc) | refine Upd0.tr ?_ (by with_reducible assumption) | refine Upd.setCell ?_ (fun h => absurd h (by first | exact Nat.lt_irrefl _ | (simp only []; omega))) _)⟩
            have hle := Lib.hid (show ∀ q, 0 < (kp + 1) → xs[(kp + 1) - 1]? = some q → q.now ≤ nowX from fun q2 _ h => (by have e := hqh.out; rw [Nat.add_sub_cancel, e] at h; cases h; omega))
            by_cases hd : dO = 0
            · as_aux_lemma =>
                subst hd
                have hN : c.N ≤ 1000000 := by have := hI.out.n; omega
                have hIn := Lib.hid (bd_put hI.out hxh.out hle.out hfx rfl (by simp only []; omega))
                have hlen : ((putS c ⟨nmx, tyx, tlx, dtx⟩ rkX nowX).L.length : Int) ≤ room := by have h1 := hIn.out.ok.len; rw [hIn.out.room] at h1; exact h1
                have hlen2 : ¬ room < ((putS c ⟨nmx, tyx, tlx, dtx⟩ rkX nowX).L.length : Int) := by omega
                have hPx := Lib.hid (fun (t : Nat) (w' : World) (hB : w.heap.size ≤ w'.heap.size) (h : Ca w.heap.size w' t c) (k : Stay w.heap.size w' aX dtx) => (show Calls Try.prog 34 #[.pointer (some ⟨t, 0, none⟩), .agg #[.string ⟨nmx.toArray⟩, .int .i64 tyx, .int .i64 tlx, .slice aX dtx.length capX], .int .i64 rkX, .int .i64 nowX] w' (Rets fun r w'' => ∃ f, r = .int .i64 f ∧ UpdQ w.heap.size w' w'' ∧ Ca w.heap.size w'' t (putS c ⟨nmx, tyx, tlx, dtx⟩ rkX nowX)) from (cput_w t c ⟨nmx, tyx, tlx, dtx⟩ aX capX rkX nowX w' hI.out.ok hN hfx hB h k).use fun v w'' ⟨e, hu, hc⟩ => ⟨_, e, hu, hc⟩))
                clear hfx
                go_wp2_with (first
                  | (go_at_call 33; (with_reducible refine (hwx.out _ ((hxX.out.up hu).up (by repeat first | with_reducible (first | exact Upd.refl _ _ | assumption | apply Upd.drew | apply Upd.alloc) | refine Upd0.tr ?_ (by with_reducible assumption) | refine Upd.setCell ?_ (fun h => absurd h (by first | exact Nat.lt_irrefl _ | (simp only []; omega))) _))).use ?_); rintro v w1 ⟨rfl, hu1⟩; have U1 : Upd0 wr w1 := (by repeat first | with_reducible (first | exact Upd.refl _ _ | assumption | apply Upd.drew | apply Upd.alloc) | refine Upd0.tr ?_ (by with_reducible assumption) | refine Upd.setCell ?_ (fun h => absurd h (by first | exact Nat.lt_irrefl _ | (simp only []; omega))) _); have y1 := Lib.hid (hu1.block (fun h => h) (alloc_last _ _ wr.heap.size rfl)); have yc := set7 y1.out; obtain ⟨c0, c1, c2, c3, c4, c5, c6⟩ := yc; have z1 := U1.size; have l1 := blk_lt y1.out; have xg1 := Nat.lt_of_lt_of_le hg z1; have q61 := U1.cell (fun h => h) q6)
                  | (go_at_call 34; (with_reducible refine (hPx.out t _ (Nat.le_trans zr z1) (hC.out.to0 U1) (Stay.of hxX.out (hu.tr U1))).use ?_); rintro v w2 ⟨f, rfl, hq2, hc2⟩; have U2x : Upd0 w w2 := UpdQ.fin (hu.tr U1) hq2; have z2x := U2x.size; have C2x := Lib.hid hc2; clear hc2)
                  | (go_at_call 39; (with_reducible refine Calls.use (clen_c t _ _ (C2x.out.to0 (by repeat first | with_reducible (first | exact Upd.refl _ _ | assumption | apply Upd.drew | apply Upd.alloc) | refine Upd0.tr ?_ (by with_reducible assumption) | refine Upd.setCell ?_ (fun h => absurd h (by first | exact Nat.lt_irrefl _ | (simp only []; omega))) _))) ?_); rintro v w3 ⟨rfl, hu3⟩)
                  | (with_reducible refine wp_serial (by kernel_rfl) (by kernel_rfl) (by repeat with_reducible (first | apply NoBad.then | apply NoBad.inBlock | apply NoBad.jump | exact NoBad.rets)) ?_) | fail)
                go_roundw
                case rel => exact ⟨(kp + 1) + 1, _, by omega, by go_num, show Upd0 w _ from U2x.tr (by repeat first | with_reducible (first | exact Upd.refl _ _ | assumption | apply Upd.drew | apply Upd.alloc) | refine Upd0.tr ?_ (by with_reducible assumption) | refine Upd.setCell ?_ (fun h => absurd h (by first | exact Nat.lt_irrefl _ | (simp only []; omega))) _), Lib.hid (C2x.out.to0 (show Upd0 w2 _ from (by repeat first | with_reducible (first | exact Upd.refl _ _ | assumption | apply Upd.drew | apply Upd.alloc) | refine Upd0.tr ?_ (by with_reducible assumption) | refine Upd.setCell ?_ (fun h => absurd h (by first | exact Nat.lt_irrefl _ | (simp only []; omega))) _))), hIn⟩
                case measure => simp [intOf]; omega
            · cases hh : hitB c nmx tyx nowX with
              | none =>
                as_aux_lemma =>
                  have hnm7 : nmx.length ≤ 70000 := by have := (fewS_num hfx).2.1; simp only [] at this; omega
                  have hGx := Lib.hid (fun (t : Nat) (w' : World) (h : Ca w.heap.size w' t c) => (show Calls Try.prog 36 #[.pointer (some ⟨t, 0, none⟩), .string ⟨nmx.toArray⟩, .int .i64 tyx, .int .i64 nowX] w' (Rets fun r w'' => r = .tuple #[.agg #[.string ⟨([] : Bs).toArray⟩, .int .i64 0, .int .i64 0, .slice none 0 0], .int .i64 0, .bool false] ∧ Upd0 w' w'') from cget_miss t c nmx tyx nowX w' hI.out.ok hnm7 htyx h hh))
                  have hlen : (c.L.length : Int) ≤ room := by have h1 := hI.out.ok.len; rw [hI.out.room] at h1; exact h1
                  have hlen2 : ¬ room < (c.L.length : Int) := by omega
                  have hIn := Lib.hid (bd_same hI.out hxh.out hle.out)
                  have hdb : (dO == 0) = false := beq_eq_false_iff_ne.2 hd
                  have htyh := Lib.hid htyx
                  clear hfx hh htyx
                  go_wp2_with (first
                    | (go_at_call 33; (with_reducible refine (hwx.out _ ((hxX.out.up hu).up (by repeat first | with_reducible (first | exact Upd.refl _ _ | assumption | apply Upd.drew | apply Upd.alloc) | refine Upd0.tr ?_ (by with_reducible assumption) | refine Upd.setCell ?_ (fun h => absurd h (by first | exact Nat.lt_irrefl _ | (simp only []; omega))) _))).use ?_); rintro v w1 ⟨rfl, hu1⟩; have U1 : Upd0 wr w1 := (by repeat first | with_reducible (first | exact Upd.refl _ _ | assumption | apply Upd.drew | apply Upd.alloc) | refine Upd0.tr ?_ (by with_reducible assumption) | refine Upd.setCell ?_ (fun h => absurd h (by first | exact Nat.lt_irrefl _ | (simp only []; omega))) _); have y1 := Lib.hid (show w1.heap[wr.heap.size]? = some (.cells #[.int .i64 dO, .string ⟨nmx.toArray⟩, .int .i64 tyx, .int .i64 tlx, .slice aX dtx.length capX, .int .i64 rkX, .int .i64 nowX] 62 (0, 0)) from hu1.block (fun h => h) (alloc_last _ _ wr.heap.size rfl)); have yc := set7 y1.out; obtain ⟨c0, c1, c2, c3, c4, c5, c6⟩ := yc; have z1 := U1.size; have l1 := blk_lt y1.out; have xg1 := Nat.lt_of_lt_of_le hg z1; have q61 := U1.cell (fun h => h) q6)
                    | (go_at_call 36; (with_reducible refine (hGx.out t _ (hC.out.to0 (show Upd0 wr _ from (by repeat first | with_reducible (first | exact Upd.refl _ _ | assumption | apply Upd.drew | apply Upd.alloc) | refine Upd0.tr ?_ (by with_reducible assumption) | refine Upd.setCell ?_ (fun h => absurd h (by first | exact Nat.lt_irrefl _ | (simp only []; omega))) _)))).use ?_); rintro v w2 ⟨rfl, hu2⟩; have V2 : Upd0 wr w2 := (by repeat first | with_reducible (first | exact Upd.refl _ _ | assumption | apply Upd.drew | apply Upd.alloc) | refine Upd0.tr ?_ (by with_reducible assumption) | refine Upd.setCell ?_ (fun h => absurd h (by first | exact Nat.lt_irrefl _ | (simp only []; omega))) _); have U2x : Upd0 w w2 := hu.tr V2; have C2x := Lib.hid (hC.out.to0 V2))
                    | (with_reducible refine wp_serial (by kernel_rfl) (by kernel_rfl) (by repeat with_reducible (first | apply NoBad.then | apply NoBad.inBlock | apply NoBad.jump | exact NoBad.rets)) ?_) | fail)
                  go_loopw [13, 12] (fun jv pv wx => jv = .int .i64 0 ∧ pv = .bool false ∧ Upd0 w wx ∧ Hid (Ca w.heap.size wx t c)) (fun _ _ _ => 0)
                  case atStart => exact ⟨rfl, rfl, U2x.tr (by repeat first | with_reducible (first | exact Upd.refl _ _ | assumption | apply Upd.drew | apply Upd.alloc) | refine Upd0.tr ?_ (by with_reducible assumption) | refine Upd.setCell ?_ (fun h => absurd h (by first | exact Nat.lt_irrefl _ | (simp only []; omega))) _), Lib.hid (C2x.out.to0 (show Upd0 w2 _ from (by repeat first | with_reducible (first | exact Upd.refl _ _ | assumption | apply Upd.drew | apply Upd.alloc) | refine Upd0.tr ?_ (by with_reducible assumption) | refine Upd.setCell ?_ (fun h => absurd h (by first | exact Nat.lt_irrefl _ | (simp only []; omega))) _)))⟩
                  case round =>
                    obtain ⟨rfl, rfl, hu5, hC5⟩ := hrel
                    go_wp2_with (first
                      | (go_at_call 39; (with_reducible refine Calls.use (clen_c t _ _ (hC5.out.to0 (by repeat first | with_reducible (first | exact Upd.refl _ _ | assumption | apply Upd.drew | apply Upd.alloc) | refine Upd0.tr ?_ (by with_reducible assumption) | refine Upd.setCell ?_ (fun h => absurd h (by first | exact Nat.lt_irrefl _ | (simp only []; omega))) _))) ?_); rintro v w9 ⟨rfl, hu9⟩)
                      | (with_reducible refine wp_serial (by kernel_rfl) (by kernel_rfl) (by repeat with_reducible (first | apply NoBad.then | apply NoBad.inBlock | apply NoBad.jump | exact NoBad.rets)) ?_) | fail)
                    go_roundw
                    case rel => exact ⟨(kp + 1) + 1, c, by omega, by go_num, show Upd0 w _ from hu5.tr (by repeat first | with_reducible (first | exact Upd.refl _ _ | assumption | apply Upd.drew | apply Upd.alloc) | refine Upd0.tr ?_ (by with_reducible assumption) | refine Upd.setCell ?_ (fun h => absurd h (by first | exact Nat.lt_irrefl _ | (simp only []; omega))) _), Lib.hid (hC5.out.to0 (by repeat first | with_reducible (first | exact Upd.refl _ _ | assumption | apply Upd.drew | apply Upd.alloc) | refine Upd0.tr ?_ (by with_reducible assumption) | refine Upd.setCell ?_ (fun h => absurd h (by first | exact Nat.lt_irrefl _ | (simp only []; omega))) _)), hIn⟩
                    case measure => (simp [intOf]; try omega)
              | some e =>
                obtain ⟨b1, b2, b3, b4, b5, b6, b7, b8, b9⟩ := bd_hit hI.out hxh.out hle.out hh
                try simp only [] at b2
                try simp only [] at b3
                try simp only [] at b4
                have hnm7 : nmx.length ≤ 70000 := by have := (fewS_num hfx).2.1; simp only [] at this; omega
                have hGx := Lib.hid (fun (t : Nat) (w' : World) (hB : w.heap.size ≤ w'.heap.size) (h : Ca w.heap.size w' t c) => (show Calls Try.prog 36 #[.pointer (some ⟨t, 0, none⟩), .string ⟨nmx.toArray⟩, .int .i64 tyx, .int .i64 nowX] w' (Rets fun r w'' => ∃ ao cap, r = .tuple #[.agg #[.string ⟨e.nm.toArray⟩, .int .i64 e.ty, .int .i64 (e.en - nowX), .slice ao e.dt.length cap], .int .i64 e.rk, .bool true] ∧ UpdQ w.heap.size w' w'' ∧ Ca w.heap.size w'' t (bumpC c (fold nmx) tyx) ∧ DR w'' ao e.dt) from cget_hit t c nmx tyx nowX e w' hI.out.ok (by have := hI.out.n; omega) hnm7 htyx hB h hh))
                have hCk := Lib.hid (fun (ao : Option Addr) (cap : Nat) (w' : World) (g : Nat) (hb : w'.heap[g]? = some (.cells #[.string ⟨e.nm.toArray⟩, .int .i64 e.ty, .int .i64 (e.en - nowX), .slice ao e.dt.length cap] 60 (0, 0))) (hS : SR w' ao e.dt) => (show Calls Try.prog 41 #[.slice (some ⟨g, 0, none⟩) 1 1] w' (Rets fun r w'' => r = .int .i64 0 ∧ Upd0 w' w'') from by have h := check1_w ⟨e.nm, e.ty, e.en - nowX, e.dt⟩ g ao cap (by simp only []; omega) (fun d hd => by have := b7 d hd; omega) (by simp only []; omega) w' hb hS; rw [ckS_yes b2] at h; exact h))
                have hIn := Lib.hid (bd_get hI.out hxh.out hle.out (fold nmx) tyx)
                have hlen : ((bumpC c (fold nmx) tyx).L.length : Int) ≤ room := by have h1 := hIn.out.ok.len; rw [hIn.out.room] at h1; exact h1
                have hdb : (dO == 0) = false := beq_eq_false_iff_ne.2 hd
                have htyh := Lib.hid htyx
                have b1h := Lib.hid b1
                have hl2 : e.dt.length ≤ 1000000 := by omega
                have hw1 : wrap64 (nowX + (e.en - nowX)) = e.en := by unfold wrap64; omega
                have hadd : nowX + (e.en - nowX) = e.en := by omega
                have httl : ¬ e.en - nowX < 1 := by omega
                clear hfx hh htyx b1 b2 b5 b6 b7
                obtain ⟨cP, hcP⟩ : ∃ cP, bumpC c (fold nmx) tyx = cP := ⟨_, rfl⟩
                rw [hcP] at hGx hIn hlen
                have hlen2 : ¬ room < (cP.L.length : Int) := by omega
                clear hcP
                go_wp2_with (first
                  | (go_at_call 33; (with_reducible refine (hwx.out _ ((hxX.out.up hu).up (by repeat first | with_reducible (first | exact Upd.refl _ _ | assumption | apply Upd.drew | apply Upd.alloc) | refine Upd0.tr ?_ (by with_reducible assumption) | refine Upd.setCell ?_ (fun h => absurd h (by first | exact Nat.lt_irrefl _ | (simp only []; omega))) _))).use ?_); rintro v w1 ⟨rfl, hu1⟩; have U1 : Upd0 wr w1 := (by repeat first | with_reducible (first | exact Upd.refl _ _ | assumption | apply Upd.drew | apply Upd.alloc) | refine Upd0.tr ?_ (by with_reducible assumption) | refine Upd.setCell ?_ (fun h => absurd h (by first | exact Nat.lt_irrefl _ | (simp only []; omega))) _); have y1 := Lib.hid (show w1.heap[wr.heap.size]? = some (.cells #[.int .i64 dO, .string ⟨nmx.toArray⟩, .int .i64 tyx, .int .i64 tlx, .slice aX dtx.length capX, .int .i64 rkX, .int .i64 nowX] 62 (0, 0)) from hu1.block (fun h => h) (alloc_last _ _ wr.heap.size rfl)); have yc := set7 y1.out; obtain ⟨c0, c1, c2, c3, c4, c5, c6⟩ := yc; have z1 := U1.size; have l1 := blk_lt y1.out; have xg1 := Nat.lt_of_lt_of_le hg z1; have q61 := U1.cell (fun h => h) q6)
                  | (go_at_call 36; refine Calls.use (hGx.out t _ (Nat.le_trans zr z1) (hC.out.to0 (show Upd0 wr _ from (by repeat first | with_reducible (first | exact Upd.refl _ _ | assumption | apply Upd.drew | apply Upd.alloc) | refine Upd0.tr ?_ (by with_reducible assumption) | refine Upd.setCell ?_ (fun h => absurd h (by first | exact Nat.lt_irrefl _ | (simp only []; omega))) _)))) ?_; rintro v w2 ⟨ao2, cap2, rfl, hq2, hc2, hd2⟩; have U2x : Upd0 w w2 := UpdQ.fin (hu.tr (show Upd0 wr _ from (by repeat first | with_reducible (first | exact Upd.refl _ _ | assumption | apply Upd.drew | apply Upd.alloc) | refine Upd0.tr ?_ (by with_reducible assumption) | refine Upd.setCell ?_ (fun h => absurd h (by first | exact Nat.lt_irrefl _ | (simp only []; omega))) _))) hq2; have z2x := U2x.size; have y2 := Lib.hid (keepO (w := w1) y1.out ⟨hq2.os, hq2.tape, hq2.output, hq2.size, hq2.keep⟩); have l2 := blk_lt y2.out; have D2 := Lib.hid hd2.1; have C2x := Lib.hid hc2; clear hc2 hd2)
                  | (with_reducible refine wp_serial (by kernel_rfl) (by kernel_rfl) (by repeat with_reducible (first | apply NoBad.then | apply NoBad.inBlock | apply NoBad.jump | exact NoBad.rets)) ?_) | fail)
                go_loopw [13, 12] (fun jv pv wx => (∃ j : Nat, j ≤ kp + 1 ∧ jv = .int .i64 j ∧ pv = .bool ((xs.take j).any (bdB e.nm e.ty e.dt e.rk e.en)) ∧ Upd0 w wx ∧ Hid (Ca w.heap.size wx t cP) ∧ Hid (wx.heap[wr.heap.size]? = some (.cells #[.int .i64 dO, .string ⟨nmx.toArray⟩, .int .i64 tyx, .int .i64 tlx, .slice aX dtx.length capX, .int .i64 rkX, .int .i64 nowX] 62 (0, 0))) ∧ Hid (wx.heap[w2.heap.size]? = some (.cells #[.string ⟨e.nm.toArray⟩, .int .i64 e.ty, .int .i64 (e.en - nowX), .slice ao2 e.dt.length cap2] 60 (0, 0))) ∧ Hid (SR wx ao2 e.dt))) (fun jv _ _ => kp + 1 - (intOf jv).toNat)
                case atStart => exact ⟨0, Nat.zero_le _, rfl, rfl, U2x.tr (by repeat first | with_reducible (first | exact Upd.refl _ _ | assumption | apply Upd.drew | apply Upd.alloc) | refine Upd0.tr ?_ (by with_reducible assumption) | refine Upd.setCell ?_ (fun h => absurd h (by first | exact Nat.lt_irrefl _ | (simp only []; omega))) _), Lib.hid (C2x.out.to0 (show Upd0 w2 _ from (by repeat first | with_reducible (first | exact Upd.refl _ _ | assumption | apply Upd.drew | apply Upd.alloc) | refine Upd0.tr ?_ (by with_reducible assumption) | refine Upd.setCell ?_ (fun h => absurd h (by first | exact Nat.lt_irrefl _ | (simp only []; omega))) _))), Lib.hid ((show Upd0 w2 _ from (by repeat first | with_reducible (first | exact Upd.refl _ _ | assumption | apply Upd.drew | apply Upd.alloc) | refine Upd0.tr ?_ (by with_reducible assumption) | refine Upd.setCell ?_ (fun h => absurd h (by first | exact Nat.lt_irrefl _ | (simp only []; omega))) _)).block (fun h => h) y2.out), Lib.hid (alloc_last _ _ _ rfl), Lib.hid (D2.out.up (show Upd0 w2 _ from (by repeat first | with_reducible (first | exact Upd.refl _ _ | assumption | apply Upd.drew | apply Upd.alloc) | refine Upd0.tr ?_ (by with_reducible assumption) | refine Upd.setCell ?_ (fun h => absurd h (by first | exact Nat.lt_irrefl _ | (simp only []; omega))) _)))⟩
                case round =>
                  obtain ⟨j, hj, rfl, rfl, hu5, hC5, hO5, hS5, hsr5⟩ := hrel
                  have zi := hu5.size
                  have yo := set7 hO5.out
                  obtain ⟨o0, o1, o2x, o3, o4, o5, o6⟩ := yo
                  have ys := set4 hS5.out
                  obtain ⟨s0, s1, s2, s3⟩ := ys
                  have lo5 := blk_lt hO5.out
                  have ls5 := blk_lt hS5.out
                  by_cases hjk : j < kp + 1
                  · obtain ⟨p, hp⟩ : ∃ p, xs[j]? = some p := ⟨xs[j]'(by omega), List.getElem?_eq_getElem _⟩
                    obtain ⟨g3, o3', hgo, hg3, hpo, r0, r1, r2, r3, r4, r5, r6⟩ := (hXh.out.up hu5).some hp
                    cases hgo
                    have hpR : Hid (SR w p.ao p.s.dt) := Lib.hid (by
                      obtain ⟨g', o', h1, h2, h3, h4⟩ := (hXh.out).some hp
                      exact h3.1)
                    have hst := Lib.hid (bd_take (f := bdB e.nm e.ty e.dt e.rk e.en) hp)
                    clear hp hpo
                    obtain ⟨pb, hpb⟩ : ∃ pb, (xs.take j).any (bdB e.nm e.ty e.dt e.rk e.en) = pb := ⟨_, rfl⟩
                    rw [hpb] at hst
                    rw [hpb]
                    clear hpb
                    obtain ⟨dP, sP, aP, capP, rkP, nowP⟩ := p
                    obtain ⟨nmp, typ, tlp, dtp⟩ := sP
                    simp only [] at r0 r1 r2 r3 r4 r5 r6 hpR
                    cases pb with
                    | true =>
                      as_aux_lemma =>
                        go_wp2_with (first
                          | (with_reducible refine wp_serial (by kernel_rfl) (by kernel_rfl) (by repeat with_reducible (first | apply NoBad.then | apply NoBad.inBlock | apply NoBad.jump | exact NoBad.rets)) ?_) | fail)
                        go_roundw
                        case rel => exact ⟨j + 1, by omega, by go_num, (by rw [hst.out]; first | rfl | (show Value.bool _ = Value.bool _; congr 1; simp; omega)), hu5.tr (by repeat first | with_reducible (first | exact Upd.refl _ _ | assumption | apply Upd.drew | apply Upd.alloc) | refine Upd0.tr ?_ (by with_reducible assumption) | refine Upd.setCell ?_ (fun h => absurd h (by first | exact Nat.lt_irrefl _ | (simp only []; omega))) _), Lib.hid (hC5.out.to0 (show Upd0 wr _ from (by repeat first | with_reducible (first | exact Upd.refl _ _ | assumption | apply Upd.drew | apply Upd.alloc) | refine Upd0.tr ?_ (by with_reducible assumption) | refine Upd.setCell ?_ (fun h => absurd h (by first | exact Nat.lt_irrefl _ | (simp only []; omega))) _))), Lib.hid ((show Upd0 wr _ from (by repeat first | with_reducible (first | exact Upd.refl _ _ | assumption | apply Upd.drew | apply Upd.alloc) | refine Upd0.tr ?_ (by with_reducible assumption) | refine Upd.setCell ?_ (fun h => absurd h (by first | exact Nat.lt_irrefl _ | (simp only []; omega))) _)).block (fun h => h) hO5.out), Lib.hid ((show Upd0 wr _ from (by repeat first | with_reducible (first | exact Upd.refl _ _ | assumption | apply Upd.drew | apply Upd.alloc) | refine Upd0.tr ?_ (by with_reducible assumption) | refine Upd.setCell ?_ (fun h => absurd h (by first | exact Nat.lt_irrefl _ | (simp only []; omega))) _)).block (fun h => h) hS5.out), Lib.hid (hsr5.out.up (show Upd0 wr _ from (by repeat first | with_reducible (first | exact Upd.refl _ _ | assumption | apply Upd.drew | apply Upd.alloc) | refine Upd0.tr ?_ (by with_reducible assumption) | refine Upd.setCell ?_ (fun h => absurd h (by first | exact Nat.lt_irrefl _ | (simp only []; omega))) _)))⟩
                        case measure => (simp [intOf]; try omega)
                    | false =>
                      by_cases n1 : dP = 0
                      case neg =>
                        have n1b : (dP == 0) = false := beq_eq_false_iff_ne.2 n1
                        have hf := Lib.hid (show bdB e.nm e.ty e.dt e.rk e.en ⟨dP, ⟨nmp, typ, tlp, dtp⟩, aP, capP, rkP, nowP⟩ = false by simp [bdB, n1])
                        as_aux_lemma =>
                          go_wp2_with (first
                            | (with_reducible refine wp_serial (by kernel_rfl) (by kernel_rfl) (by repeat with_reducible (first | apply NoBad.then | apply NoBad.inBlock | apply NoBad.jump | exact NoBad.rets)) ?_) | fail)
                          go_roundw
                          case rel => exact ⟨j + 1, by omega, by go_num, (by rw [hst.out]; rw [hf.out]; first | rfl | (show Value.bool _ = Value.bool _; congr 1; simp; omega)), hu5.tr (by repeat first | with_reducible (first | exact Upd.refl _ _ | assumption | apply Upd.drew | apply Upd.alloc) | refine Upd0.tr ?_ (by with_reducible assumption) | refine Upd.setCell ?_ (fun h => absurd h (by first | exact Nat.lt_irrefl _ | (simp only []; omega))) _), Lib.hid (hC5.out.to0 (show Upd0 wr _ from (by repeat first | with_reducible (first | exact Upd.refl _ _ | assumption | apply Upd.drew | apply Upd.alloc) | refine Upd0.tr ?_ (by with_reducible assumption) | refine Upd.setCell ?_ (fun h => absurd h (by first | exact Nat.lt_irrefl _ | (simp only []; omega))) _))), Lib.hid ((show Upd0 wr _ from (by repeat first | with_reducible (first | exact Upd.refl _ _ | assumption | apply Upd.drew | apply Upd.alloc) | refine Upd0.tr ?_ (by with_reducible assumption) | refine Upd.setCell ?_ (fun h => absurd h (by first | exact Nat.lt_irrefl _ | (simp only []; omega))) _)).block (fun h => h) hO5.out), Lib.hid ((show Upd0 wr _ from (by repeat first | with_reducible (first | exact Upd.refl _ _ | assumption | apply Upd.drew | apply Upd.alloc) | refine Upd0.tr ?_ (by with_reducible assumption) | refine Upd.setCell ?_ (fun h => absurd h (by first | exact Nat.lt_irrefl _ | (simp only []; omega))) _)).block (fun h => h) hS5.out), Lib.hid (hsr5.out.up (show Upd0 wr _ from (by repeat first | with_reducible (first | exact Upd.refl _ _ | assumption | apply Upd.drew | apply Upd.alloc) | refine Upd0.tr ?_ (by with_reducible assumption) | refine Upd.setCell ?_ (fun h => absurd h (by first | exact Nat.lt_irrefl _ | (simp only []; omega))) _)))⟩
                          case measure => (simp [intOf]; try omega)
                      subst n1
                      by_cases n2 : rkP = e.rk
                      case neg =>
                        have n2b : (rkP == e.rk) = false := beq_eq_false_iff_ne.2 n2
                        have hf := Lib.hid (show bdB e.nm e.ty e.dt e.rk e.en ⟨0, ⟨nmp, typ, tlp, dtp⟩, aP, capP, rkP, nowP⟩ = false by simp [bdB, n2])
                        as_aux_lemma =>
                          go_wp2_with (first
                            | (with_reducible refine wp_serial (by kernel_rfl) (by kernel_rfl) (by repeat with_reducible (first | apply NoBad.then | apply NoBad.inBlock | apply NoBad.jump | exact NoBad.rets)) ?_) | fail)
                          go_roundw
                          case rel => exact ⟨j + 1, by omega, by go_num, (by rw [hst.out]; rw [hf.out]; first | rfl | (show Value.bool _ = Value.bool _; congr 1; simp; omega)), hu5.tr (by repeat first | with_reducible (first | exact Upd.refl _ _ | assumption | apply Upd.drew | apply Upd.alloc) | refine Upd0.tr ?_ (by with_reducible assumption) | refine Upd.setCell ?_ (fun h => absurd h (by first | exact Nat.lt_irrefl _ | (simp only []; omega))) _), Lib.hid (hC5.out.to0 (show Upd0 wr _ from (by repeat first | with_reducible (first | exact Upd.refl _ _ | assumption | apply Upd.drew | apply Upd.alloc) | refine Upd0.tr ?_ (by with_reducible assumption) | refine Upd.setCell ?_ (fun h => absurd h (by first | exact Nat.lt_irrefl _ | (simp only []; omega))) _))), Lib.hid ((show Upd0 wr _ from (by repeat first | with_reducible (first | exact Upd.refl _ _ | assumption | apply Upd.drew | apply Upd.alloc) | refine Upd0.tr ?_ (by with_reducible assumption) | refine Upd.setCell ?_ (fun h => absurd h (by first | exact Nat.lt_irrefl _ | (simp only []; omega))) _)).block (fun h => h) hO5.out), Lib.hid ((show Upd0 wr _ from (by repeat first | with_reducible (first | exact Upd.refl _ _ | assumption | apply Upd.drew | apply Upd.alloc) | refine Upd0.tr ?_ (by with_reducible assumption) | refine Upd.setCell ?_ (fun h => absurd h (by first | exact Nat.lt_irrefl _ | (simp only []; omega))) _)).block (fun h => h) hS5.out), Lib.hid (hsr5.out.up (show Upd0 wr _ from (by repeat first | with_reducible (first | exact Upd.refl _ _ | assumption | apply Upd.drew | apply Upd.alloc) | refine Upd0.tr ?_ (by with_reducible assumption) | refine Upd.setCell ?_ (fun h => absurd h (by first | exact Nat.lt_irrefl _ | (simp only []; omega))) _)))⟩
                          case measure => (simp [intOf]; try omega)
                      subst n2
                      by_cases n3 : nmp = e.nm
                      case neg =>
                        have n3b : (nmp == e.nm) = false := beq_eq_false_iff_ne.2 n3
                        have hf := Lib.hid (show bdB e.nm e.ty e.dt e.rk e.en ⟨0, ⟨nmp, typ, tlp, dtp⟩, aP, capP, e.rk, nowP⟩ = false by simp [bdB, n3])
                        as_aux_lemma =>
                          go_wp2_with (first
                            | (with_reducible refine wp_serial (by kernel_rfl) (by kernel_rfl) (by repeat with_reducible (first | apply NoBad.then | apply NoBad.inBlock | apply NoBad.jump | exact NoBad.rets)) ?_) | fail)
                          go_roundw
                          case rel => exact ⟨j + 1, by omega, by go_num, (by rw [hst.out]; rw [hf.out]; first | rfl | (show Value.bool _ = Value.bool _; congr 1; simp; omega)), hu5.tr (by repeat first | with_reducible (first | exact Upd.refl _ _ | assumption | apply Upd.drew | apply Upd.alloc) | refine Upd0.tr ?_ (by with_reducible assumption) | refine Upd.setCell ?_ (fun h => absurd h (by first | exact Nat.lt_irrefl _ | (simp only []; omega))) _), Lib.hid (hC5.out.to0 (show Upd0 wr _ from (by repeat first | with_reducible (first | exact Upd.refl _ _ | assumption | apply Upd.drew | apply Upd.alloc) | refine Upd0.tr ?_ (by with_reducible assumption) | refine Upd.setCell ?_ (fun h => absurd h (by first | exact Nat.lt_irrefl _ | (simp only []; omega))) _))), Lib.hid ((show Upd0 wr _ from (by repeat first | with_reducible (first | exact Upd.refl _ _ | assumption | apply Upd.drew | apply Upd.alloc) | refine Upd0.tr ?_ (by with_reducible assumption) | refine Upd.setCell ?_ (fun h => absurd h (by first | exact Nat.lt_irrefl _ | (simp only []; omega))) _)).block (fun h => h) hO5.out), Lib.hid ((show Upd0 wr _ from (by repeat first | with_reducible (first | exact Upd.refl _ _ | assumption | apply Upd.drew | apply Upd.alloc) | refine Upd0.tr ?_ (by with_reducible assumption) | refine Upd.setCell ?_ (fun h => absurd h (by first | exact Nat.lt_irrefl _ | (simp only []; omega))) _)).block (fun h => h) hS5.out), Lib.hid (hsr5.out.up (show Upd0 wr _ from (by repeat first | with_reducible (first | exact Upd.refl _ _ | assumption | apply Upd.drew | apply Upd.alloc) | refine Upd0.tr ?_ (by with_reducible assumption) | refine Upd.setCell ?_ (fun h => absurd h (by first | exact Nat.lt_irrefl _ | (simp only []; omega))) _)))⟩
                          case measure => (simp [intOf]; try omega)
                      subst n3
                      by_cases n4 : typ = e.ty
                      case neg =>
                        have n4b : (typ == e.ty) = false := beq_eq_false_iff_ne.2 n4
                        have hf := Lib.hid (show bdB e.nm e.ty e.dt e.rk e.en ⟨0, ⟨e.nm, typ, tlp, dtp⟩, aP, capP, e.rk, nowP⟩ = false by simp [bdB, n4])
                        as_aux_lemma =>
                          go_wp2_with (first
                            | (with_reducible refine wp_serial (by kernel_rfl) (by kernel_rfl) (by repeat with_reducible (first | apply NoBad.then | apply NoBad.inBlock | apply NoBad.jump | exact NoBad.rets)) ?_) | fail)
                          go_roundw
                          case rel => exact ⟨j + 1, by omega, by go_num, (by rw [hst.out]; rw [hf.out]; first | rfl | (show Value.bool _ = Value.bool _; congr 1; simp; omega)), hu5.tr (by repeat first | with_reducible (first | exact Upd.refl _ _ | assumption | apply Upd.drew | apply Upd.alloc) | refine Upd0.tr ?_ (by with_reducible assumption) | refine Upd.setCell ?_ (fun h => absurd h (by first | exact Nat.lt_irrefl _ | (simp only []; omega))) _), Lib.hid (hC5.out.to0 (show Upd0 wr _ from (by repeat first | with_reducible (first | exact Upd.refl _ _ | assumption | apply Upd.drew | apply Upd.alloc) | refine Upd0.tr ?_ (by with_reducible assumption) | refine Upd.setCell ?_ (fun h => absurd h (by first | exact Nat.lt_irrefl _ | (simp only []; omega))) _))), Lib.hid ((show Upd0 wr _ from (by repeat first | with_reducible (first | exact Upd.refl _ _ | assumption | apply Upd.drew | apply Upd.alloc) | refine Upd0.tr ?_ (by with_reducible assumption) | refine Upd.setCell ?_ (fun h => absurd h (by first | exact Nat.lt_irrefl _ | (simp only []; omega))) _)).block (fun h => h) hO5.out), Lib.hid ((show Upd0 wr _ from (by repeat first | with_reducible (first | exact Upd.refl _ _ | assumption | apply Upd.drew | apply Upd.alloc) | refine Upd0.tr ?_ (by with_reducible assumption) | refine Upd.setCell ?_ (fun h => absurd h (by first | exact Nat.lt_irrefl _ | (simp only []; omega))) _)).block (fun h => h) hS5.out), Lib.hid (hsr5.out.up (show Upd0 wr _ from (by repeat first | with_reducible (first | exact Upd.refl _ _ | assumption | apply Upd.drew | apply Upd.alloc) | refine Upd0.tr ?_ (by with_reducible assumption) | refine Upd.setCell ?_ (fun h => absurd h (by first | exact Nat.lt_irrefl _ | (simp only []; omega))) _)))⟩
                          case measure => (simp [intOf]; try omega)
                      subst n4
                      obtain ⟨tb, htbe⟩ : ∃ tb, (dtp == e.dt) = tb := ⟨_, rfl⟩
                      have htb := Lib.hid htbe
                      clear htbe
                      cases tb with
                      | false =>
                        have hf := Lib.hid (show bdB e.nm e.ty e.dt e.rk e.en ⟨0, ⟨e.nm, e.ty, tlp, dtp⟩, aP, capP, e.rk, nowP⟩ = false by simp [bdB, htb.out])
                        as_aux_lemma =>
                          go_wp2_with (first
                            | (go_at_call 40; refine Calls.use (rtexts3_w aP ao2 capP cap2 dtp e.dt _ ((hpR.out.up hu5).up (by repeat first | with_reducible (first | exact Upd.refl _ _ | assumption | apply Upd.drew | apply Upd.alloc) | refine Upd0.tr ?_ (by with_reducible assumption) | refine Upd.setCell ?_ (fun h => absurd h (by first | exact Nat.lt_irrefl _ | (simp only []; omega))) _)) (hsr5.out.up (by repeat first | with_reducible (first | exact Upd.refl _ _ | assumption | apply Upd.drew | apply Upd.alloc) | refine Upd0.tr ?_ (by with_reducible assumption) | refine Upd.setCell ?_ (fun h => absurd h (by first | exact Nat.lt_irrefl _ | (simp only []; omega))) _)) hl2) ?_; rintro v w7 ⟨rfl, hu7⟩; rw [htb.out]; have V7 : Upd0 wr w7 := (by repeat first | with_reducible (first | exact Upd.refl _ _ | assumption | apply Upd.drew | apply Upd.alloc) | refine Upd0.tr ?_ (by with_reducible assumption) | refine Upd.setCell ?_ (fun h => absurd h (by first | exact Nat.lt_irrefl _ | (simp only []; omega))) _); have yo := set7 (V7.block (fun h => h) hO5.out); obtain ⟨o0, o1, o2x, o3, o4, o5, o6⟩ := yo; have ys := set4 (V7.block (fun h => h) hS5.out); obtain ⟨s0, s1, s2, s3⟩ := ys; have yp := set7 (hu7.block (fun h => h) (alloc_last _ _ wr.heap.size rfl)); obtain ⟨v0, v1, v2, v3, v4, v5, v6⟩ := yp; have lo7 := blk_lt (V7.block (fun h => h) hO5.out); have ls7 := blk_lt (V7.block (fun h => h) hS5.out); have lp7 : wr.heap.size < w7.heap.size := (by have := hu7.size; simp only [World.size_alloc] at this; omega))
                            | (with_reducible refine wp_serial (by kernel_rfl) (by kernel_rfl) (by repeat with_reducible (first | apply NoBad.then | apply NoBad.inBlock | apply NoBad.jump | exact NoBad.rets)) ?_) | fail)
                          go_roundw
                          case rel => exact ⟨j + 1, by omega, by go_num, (by rw [hst.out]; rw [hf.out]; first | rfl | (show Value.bool _ = Value.bool _; congr 1; simp; omega)), hu5.tr (by repeat first | with_reducible (first | exact Upd.refl _ _ | assumption | apply Upd.drew | apply Upd.alloc) | refine Upd0.tr ?_ (by with_reducible assumption) | refine Upd.setCell ?_ (fun h => absurd h (by first | exact Nat.lt_irrefl _ | (simp only []; omega))) _), Lib.hid (hC5.out.to0 (show Upd0 wr _ from (by repeat first | with_reducible (first | exact Upd.refl _ _ | assumption | apply Upd.drew | apply Upd.alloc) | refine Upd0.tr ?_ (by with_reducible assumption) | refine Upd.setCell ?_ (fun h => absurd h (by first | exact Nat.lt_irrefl _ | (simp only []; omega))) _))), Lib.hid ((show Upd0 wr _ from (by repeat first | with_reducible (first | exact Upd.refl _ _ | assumption | apply Upd.drew | apply Upd.alloc) | refine Upd0.tr ?_ (by with_reducible assumption) | refine Upd.setCell ?_ (fun h => absurd h (by first | exact Nat.lt_irrefl _ | (simp only []; omega))) _)).block (fun h => h) hO5.out), Lib.hid ((show Upd0 wr _ from (by repeat first | with_reducible (first | exact Upd.refl _ _ | assumption | apply Upd.drew | apply Upd.alloc) | refine Upd0.tr ?_ (by with_reducible assumption) | refine Upd.setCell ?_ (fun h => absurd h (by first | exact Nat.lt_irrefl _ | (simp only []; omega))) _)).block (fun h => h) hS5.out), Lib.hid (hsr5.out.up (show Upd0 wr _ from (by repeat first | with_reducible (first | exact Upd.refl _ _ | assumption | apply Upd.drew | apply Upd.alloc) | refine Upd0.tr ?_ (by with_reducible assumption) | refine Upd.setCell ?_ (fun h => absurd h (by first | exact Nat.lt_irrefl _ | (simp only []; omega))) _)))⟩
                          case measure => (simp [intOf]; try omega)
                      | true =>
                        by_cases m1 : tlp ≤ 1000
                        · have hmn : min tlp 1000 = tlp := by omega
                          have m2 : ¬ 1000 < tlp := by omega
                          by_cases n5 : wrap64 (nowP + tlp) = e.en
                          · have hf := Lib.hid (show bdB e.nm e.ty e.dt e.rk e.en ⟨0, ⟨e.nm, e.ty, tlp, dtp⟩, aP, capP, e.rk, nowP⟩ = true by simp [bdB, htb.out, hmn, n5])
                            as_aux_lemma =>
                              go_wp2_with (first
                                | (go_at_call 40; refine Calls.use (rtexts3_w aP ao2 capP cap2 dtp e.dt _ ((hpR.out.up hu5).up (by repeat first | with_reducible (first | exact Upd.refl _ _ | assumption | apply Upd.drew | apply Upd.alloc) | refine Upd0.tr ?_ (by with_reducible assumption) | refine Upd.setCell ?_ (fun h => absurd h (by first | exact Nat.lt_irrefl _ | (simp only []; omega))) _)) (hsr5.out.up (by repeat first | with_reducible (first | exact Upd.refl _ _ | assumption | apply Upd.drew | apply Upd.alloc) | refine Upd0.tr ?_ (by with_reducible assumption) | refine Upd.setCell ?_ (fun h => absurd h (by first | exact Nat.lt_irrefl _ | (simp only []; omega))) _)) hl2) ?_; rintro v w7 ⟨rfl, hu7⟩; rw [htb.out]; have V7 : Upd0 wr w7 := (by repeat first | with_reducible (first | exact Upd.refl _ _ | assumption | apply Upd.drew | apply Upd.alloc) | refine Upd0.tr ?_ (by with_reducible assumption) | refine Upd.setCell ?_ (fun h => absurd h (by first | exact Nat.lt_irrefl _ | (simp only []; omega))) _); have yo := set7 (V7.block (fun h => h) hO5.out); obtain ⟨o0, o1, o2x, o3, o4, o5, o6⟩ := yo; have ys := set4 (V7.block (fun h => h) hS5.out); obtain ⟨s0, s1, s2, s3⟩ := ys; have yp := set7 (hu7.block (fun h => h) (alloc_last _ _ wr.heap.size rfl)); obtain ⟨v0, v1, v2, v3, v4, v5, v6⟩ := yp; have lo7 := blk_lt (V7.block (fun h => h) hO5.out); have ls7 := blk_lt (V7.block (fun h => h) hS5.out); have lp7 : wr.heap.size < w7.heap.size := (by have := hu7.size; simp only [World.size_alloc] at this; omega))
                                | (with_reducible refine wp_serial (by kernel_rfl) (by kernel_rfl) (by repeat with_reducible (first | apply NoBad.then | apply NoBad.inBlock | apply NoBad.jump | exact NoBad.rets)) ?_) | fail)
                              go_roundw
                              case rel => exact ⟨j + 1, by omega, by go_num, (by rw [hst.out]; rw [hf.out]; first | rfl | (show Value.bool _ = Value.bool _; congr 1; simp; omega)), hu5.tr (by repeat first | with_reducible (first | exact Upd.refl _ _ | assumption | apply Upd.drew | apply Upd.alloc) | refine Upd0.tr ?_ (by with_reducible assumption) | refine Upd.setCell ?_ (fun h => absurd h (by first | exact Nat.lt_irrefl _ | (simp only []; omega))) _), Lib.hid (hC5.out.to0 (show Upd0 wr _ from (by repeat first | with_reducible (first | exact Upd.refl _ _ | assumption | apply Upd.drew | apply Upd.alloc) | refine Upd0.tr ?_ (by with_reducible assumption) | refine Upd.setCell ?_ (fun h => absurd h (by first | exact Nat.lt_irrefl _ | (simp only []; omega))) _))), Lib.hid ((show Upd0 wr _ from (by repeat first | with_reducible (first | exact Upd.refl _ _ | assumption | apply Upd.drew | apply Upd.alloc) | refine Upd0.tr ?_ (by with_reducible assumption) | refine Upd.setCell ?_ (fun h => absurd h (by first | exact Nat.lt_irrefl _ | (simp only []; omega))) _)).block (fun h => h) hO5.out), Lib.hid ((show Upd0 wr _ from (by repeat first | with_reducible (first | exact Upd.refl _ _ | assumption | apply Upd.drew | apply Upd.alloc) | refine Upd0.tr ?_ (by with_reducible assumption) | refine Upd.setCell ?_ (fun h => absurd h (by first | exact Nat.lt_irrefl _ | (simp only []; omega))) _)).block (fun h => h) hS5.out), Lib.hid (hsr5.out.up (show Upd0 wr _ from (by repeat first | with_reducible (first | exact Upd.refl _ _ | assumption | apply Upd.drew | apply Upd.alloc) | refine Upd0.tr ?_ (by with_reducible assumption) | refine Upd.setCell ?_ (fun h => absurd h (by first | exact Nat.lt_irrefl _ | (simp only []; omega))) _)))⟩
                              case measure => (simp [intOf]; try omega)
                          · have n5b : (wrap64 (nowP + tlp) == e.en) = false := beq_eq_false_iff_ne.2 n5
                            have hf := Lib.hid (show bdB e.nm e.ty e.dt e.rk e.en ⟨0, ⟨e.nm, e.ty, tlp, dtp⟩, aP, capP, e.rk, nowP⟩ = false by simp [bdB, hmn, n5])
                            as_aux_lemma =>
                              go_wp2_with (first
                                | (go_at_call 40; refine Calls.use (rtexts3_w aP ao2 capP cap2 dtp e.dt _ ((hpR.out.up hu5).up (by repeat first | with_reducible (first | exact Upd.refl _ _ | assumption | apply Upd.drew | apply Upd.alloc) | refine Upd0.tr ?_ (by with_reducible assumption) | refine Upd.setCell ?_ (fun h => absurd h (by first | exact Nat.lt_irrefl _ | (simp only []; omega))) _)) (hsr5.out.up (by repeat first | with_reducible (first | exact Upd.refl _ _ | assumption | apply Upd.drew | apply Upd.alloc) | refine Upd0.tr ?_ (by with_reducible assumption) | refine Upd.setCell ?_ (fun h => absurd h (by first | exact Nat.lt_irrefl _ | (simp only []; omega))) _)) hl2) ?_; rintro v w7 ⟨rfl, hu7⟩; rw [htb.out]; have V7 : Upd0 wr w7 := (by repeat first | with_reducible (first | exact Upd.refl _ _ | assumption | apply Upd.drew | apply Upd.alloc) | refine Upd0.tr ?_ (by with_reducible assumption) | refine Upd.setCell ?_ (fun h => absurd h (by first | exact Nat.lt_irrefl _ | (simp only []; omega))) _); have yo := set7 (V7.block (fun h => h) hO5.out); obtain ⟨o0, o1, o2x, o3, o4, o5, o6⟩ := yo; have ys := set4 (V7.block (fun h => h) hS5.out); obtain ⟨s0, s1, s2, s3⟩ := ys; have yp := set7 (hu7.block (fun h => h) (alloc_last _ _ wr.heap.size rfl)); obtain ⟨v0, v1, v2, v3, v4, v5, v6⟩ := yp; have lo7 := blk_lt (V7.block (fun h => h) hO5.out); have ls7 := blk_lt (V7.block (fun h => h) hS5.out); have lp7 : wr.heap.size < w7.heap.size := (by have := hu7.size; simp only [World.size_alloc] at this; omega))
                                | (with_reducible refine wp_serial (by kernel_rfl) (by kernel_rfl) (by repeat with_reducible (first | apply NoBad.then | apply NoBad.inBlock | apply NoBad.jump | exact NoBad.rets)) ?_) | fail)
                              go_roundw
                              case rel => exact ⟨j + 1, by omega, by go_num, (by rw [hst.out]; rw [hf.out]; first | rfl | (show Value.bool _ = Value.bool _; congr 1; simp; omega)), hu5.tr (by repeat first | with_reducible (first | exact Upd.refl _ _ | assumption | apply Upd.drew | apply Upd.alloc) | refine Upd0.tr ?_ (by with_reducible assumption) | refine Upd.setCell ?_ (fun h => absurd h (by first | exact Nat.lt_irrefl _ | (simp only []; omega))) _), Lib.hid (hC5.out.to0 (show Upd0 wr _ from (by repeat first | with_reducible (first | exact Upd.refl _ _ | assumption | apply Upd.drew | apply Upd.alloc) | refine Upd0.tr ?_ (by with_reducible assumption) | refine Upd.setCell ?_ (fun h => absurd h (by first | exact Nat.lt_irrefl _ | (simp only []; omega))) _))), Lib.hid ((show Upd0 wr _ from (by repeat first | with_reducible (first | exact Upd.refl _ _ | assumption | apply Upd.drew | apply Upd.alloc) | refine Upd0.tr ?_ (by with_reducible assumption) | refine Upd.setCell ?_ (fun h => absurd h (by first | exact Nat.lt_irrefl _ | (simp only []; omega))) _)).block (fun h => h) hO5.out), Lib.hid ((show Upd0 wr _ from (by repeat first | with_reducible (first | exact Upd.refl _ _ | assumption | apply Upd.drew | apply Upd.alloc) | refine Upd0.tr ?_ (by with_reducible assumption) | refine Upd.setCell ?_ (fun h => absurd h (by first | exact Nat.lt_irrefl _ | (simp only []; omega))) _)).block (fun h => h) hS5.out), Lib.hid (hsr5.out.up (show Upd0 wr _ from (by repeat first | with_reducible (first | exact Upd.refl _ _ | assumption | apply Upd.drew | apply Upd.alloc) | refine Upd0.tr ?_ (by with_reducible assumption) | refine Upd.setCell ?_ (fun h => absurd h (by first | exact Nat.lt_irrefl _ | (simp only []; omega))) _)))⟩
                              case measure => (simp [intOf]; try omega)
                        · have hmn : min tlp 1000 = 1000 := by omega
                          have m2 : 1000 < tlp := by omega
                          have m3 : 1000 ≤ tlp := by omega
                          by_cases n5 : wrap64 (nowP + 1000) = e.en
                          · have hf := Lib.hid (show bdB e.nm e.ty e.dt e.rk e.en ⟨0, ⟨e.nm, e.ty, tlp, dtp⟩, aP, capP, e.rk, nowP⟩ = true by simp [bdB, htb.out, hmn, n5])
                            as_aux_lemma =>
                              go_wp2_with (first
                                | (go_at_call 40; refine Calls.use (rtexts3_w aP ao2 capP cap2 dtp e.dt _ ((hpR.out.up hu5).up (by repeat first | with_reducible (first | exact Upd.refl _ _ | assumption | apply Upd.drew | apply Upd.alloc) | refine Upd0.tr ?_ (by with_reducible assumption) | refine Upd.setCell ?_ (fun h => absurd h (by first | exact Nat.lt_irrefl _ | (simp only []; omega))) _)) (hsr5.out.up (by repeat first | with_reducible (first | exact Upd.refl _ _ | assumption | apply Upd.drew | apply Upd.alloc) | refine Upd0.tr ?_ (by with_reducible assumption) | refine Upd.setCell ?_ (fun h => absurd h (by first | exact Nat.lt_irrefl _ | (simp only []; omega))) _)) hl2) ?_; rintro v w7 ⟨rfl, hu7⟩; rw [htb.out]; have V7 : Upd0 wr w7 := (by repeat first | with_reducible (first | exact Upd.refl _ _ | assumption | apply Upd.drew | apply Upd.alloc) | refine Upd0.tr ?_ (by with_reducible assumption) | refine Upd.setCell ?_ (fun h => absurd h (by first | exact Nat.lt_irrefl _ | (simp only []; omega))) _); have yo := set7 (V7.block (fun h => h) hO5.out); obtain ⟨o0, o1, o2x, o3, o4, o5, o6⟩ := yo; have ys := set4 (V7.block (fun h => h) hS5.out); obtain ⟨s0, s1, s2, s3⟩ := ys; have yp := set7 (hu7.block (fun h => h) (alloc_last _ _ wr.heap.size rfl)); obtain ⟨v0, v1, v2, v3, v4, v5, v6⟩ := yp; have lo7 := blk_lt (V7.block (fun h => h) hO5.out); have ls7 := blk_lt (V7.block (fun h => h) hS5.out); have lp7 : wr.heap.size < w7.heap.size := (by have := hu7.size; simp only [World.size_alloc] at this; omega))
                                | (with_reducible refine wp_serial (by kernel_rfl) (by kernel_rfl) (by repeat with_reducible (first | apply NoBad.then | apply NoBad.inBlock | apply NoBad.jump | exact NoBad.rets)) ?_) | fail)
                              go_roundw
                              case rel => exact ⟨j + 1, by omega, by go_num, (by rw [hst.out]; rw [hf.out]; first | rfl | (show Value.bool _ = Value.bool _; congr 1; simp; omega)), hu5.tr (by repeat first | with_reducible (first | exact Upd.refl _ _ | assumption | apply Upd.drew | apply Upd.alloc) | refine Upd0.tr ?_ (by with_reducible assumption) | refine Upd.setCell ?_ (fun h => absurd h (by first | exact Nat.lt_irrefl _ | (simp only []; omega))) _), Lib.hid (hC5.out.to0 (show Upd0 wr _ from (by repeat first | with_reducible (first | exact Upd.refl _ _ | assumption | apply Upd.drew | apply Upd.alloc) | refine Upd0.tr ?_ (by with_reducible assumption) | refine Upd.setCell ?_ (fun h => absurd h (by first | exact Nat.lt_irrefl _ | (simp only []; omega))) _))), Lib.hid ((show Upd0 wr _ from (by repeat first | with_reducible (first | exact Upd.refl _ _ | assumption | apply Upd.drew | apply Upd.alloc) | refine Upd0.tr ?_ (by with_reducible assumption) | refine Upd.setCell ?_ (fun h => absurd h (by first | exact Nat.lt_irrefl _ | (simp only []; omega))) _)).block (fun h => h) hO5.out), Lib.hid ((show Upd0 wr _ from (by repeat first | with_reducible (first | exact Upd.refl _ _ | assumption | apply Upd.drew | apply Upd.alloc) | refine Upd0.tr ?_ (by with_reducible assumption) | refine Upd.setCell ?_ (fun h => absurd h (by first | exact Nat.lt_irrefl _ | (simp only []; omega))) _)).block (fun h => h) hS5.out), Lib.hid (hsr5.out.up (show Upd0 wr _ from (by repeat first | with_reducible (first | exact Upd.refl _ _ | assumption | apply Upd.drew | apply Upd.alloc) | refine Upd0.tr ?_ (by with_reducible assumption) | refine Upd.setCell ?_ (fun h => absurd h (by first | exact Nat.lt_irrefl _ | (simp only []; omega))) _)))⟩
                              case measure => (simp [intOf]; try omega)
                          · have n5b : (wrap64 (nowP + 1000) == e.en) = false := beq_eq_false_iff_ne.2 n5
                            have hf := Lib.hid (show bdB e.nm e.ty e.dt e.rk e.en ⟨0, ⟨e.nm, e.ty, tlp, dtp⟩, aP, capP, e.rk, nowP⟩ = false by simp [bdB, hmn, n5])
                            as_aux_lemma =>
                              go_wp2_with (first
                                | (go_at_call 40; refine Calls.use (rtexts3_w aP ao2 capP cap2 dtp e.dt _ ((hpR.out.up hu5).up (by repeat first | with_reducible (first | exact Upd.refl _ _ | assumption | apply Upd.drew | apply Upd.alloc) | refine Upd0.tr ?_ (by with_reducible assumption) | refine Upd.setCell ?_ (fun h => absurd h (by first | exact Nat.lt_irrefl _ | (simp only []; omega))) _)) (hsr5.out.up (by repeat first | with_reducible (first | exact Upd.refl _ _ | assumption | apply Upd.drew | apply Upd.alloc) | refine Upd0.tr ?_ (by with_reducible assumption) | refine Upd.setCell ?_ (fun h => absurd h (by first | exact Nat.lt_irrefl _ | (simp only []; omega))) _)) hl2) ?_; rintro v w7 ⟨rfl, hu7⟩; rw [htb.out]; have V7 : Upd0 wr w7 := (by repeat first | with_reducible (first | exact Upd.refl _ _ | assumption | apply Upd.drew | apply Upd.alloc) | refine Upd0.tr ?_ (by with_reducible assumption) | refine Upd.setCell ?_ (fun h => absurd h (by first | exact Nat.lt_irrefl _ | (simp only []; omega))) _); have yo := set7 (V7.block (fun h => h) hO5.out); obtain ⟨o0, o1, o2x, o3, o4, o5, o6⟩ := yo; have ys := set4 (V7.block (fun h => h) hS5.out); obtain ⟨s0, s1, s2, s3⟩ := ys; have yp := set7 (hu7.block (fun h => h) (alloc_last _ _ wr.heap.size rfl)); obtain ⟨v0, v1, v2, v3, v4, v5, v6⟩ := yp; have lo7 := blk_lt (V7.block (fun h => h) hO5.out); have ls7 := blk_lt (V7.block (fun h => h) hS5.out); have lp7 : wr.heap.size < w7.heap.size := (by have := hu7.size; simp only [World.size_alloc] at this; omega))
                                | (with_reducible refine wp_serial (by kernel_rfl) (by kernel_rfl) (by repeat with_reducible (first | apply NoBad.then | apply NoBad.inBlock | apply NoBad.jump | exact NoBad.rets)) ?_) | fail)
                              go_roundw
                              case rel => exact ⟨j + 1, by omega, by go_num, (by rw [hst.out]; rw [hf.out]; first | rfl | (show Value.bool _ = Value.bool _; congr 1; simp; omega)), hu5.tr (by repeat first | with_reducible (first | exact Upd.refl _ _ | assumption | apply Upd.drew | apply Upd.alloc) | refine Upd0.tr ?_ (by with_reducible assumption) | refine Upd.setCell ?_ (fun h => absurd h (by first | exact Nat.lt_irrefl _ | (simp only []; omega))) _), Lib.hid (hC5.out.to0 (show Upd0 wr _ from (by repeat first | with_reducible (first | exact Upd.refl _ _ | assumption | apply Upd.drew | apply Upd.alloc) | refine Upd0.tr ?_ (by with_reducible assumption) | refine Upd.setCell ?_ (fun h => absurd h (by first | exact Nat.lt_irrefl _ | (simp only []; omega))) _))), Lib.hid ((show Upd0 wr _ from (by repeat first | with_reducible (first | exact Upd.refl _ _ | assumption | apply Upd.drew | apply Upd.alloc) | refine Upd0.tr ?_ (by with_reducible assumption) | refine Upd.setCell ?_ (fun h => absurd h (by first | exact Nat.lt_irrefl _ | (simp only []; omega))) _)).block (fun h => h) hO5.out), Lib.hid ((show Upd0 wr _ from (by repeat first | with_reducible (first | exact Upd.refl _ _ | assumption | apply Upd.drew | apply Upd.alloc) | refine Upd0.tr ?_ (by with_reducible assumption) | refine Upd.setCell ?_ (fun h => absurd h (by first | exact Nat.lt_irrefl _ | (simp only []; omega))) _)).block (fun h => h) hS5.out), Lib.hid (hsr5.out.up (show Upd0 wr _ from (by repeat first | with_reducible (first | exact Upd.refl _ _ | assumption | apply Upd.drew | apply Upd.alloc) | refine Upd0.tr ?_ (by with_reducible assumption) | refine Upd.setCell ?_ (fun h => absurd h (by first | exact Nat.lt_irrefl _ | (simp only []; omega))) _)))⟩
                              case measure => (simp [intOf]; try omega)
                  · obtain rfl : j = kp + 1 := by omega
                    rw [b1h.out]
                    as_aux_lemma =>
                      go_wp2_with (first
                        | (go_at_call 41; refine Calls.use (hCk.out ao2 cap2 _ wr.heap.size (alloc_last _ _ _ (by simp)) (hsr5.out.up (by repeat first | with_reducible (first | exact Upd.refl _ _ | assumption | apply Upd.drew | apply Upd.alloc) | refine Upd0.tr ?_ (by with_reducible assumption) | refine Upd.setCell ?_ (fun h => absurd h (by first | exact Nat.lt_irrefl _ | (simp only []; omega))) _))) ?_; rintro v w8 ⟨rfl, hu8⟩; have V8 : Upd0 wr w8 := (by repeat first | with_reducible (first | exact Upd.refl _ _ | assumption | apply Upd.drew | apply Upd.alloc) | refine Upd0.tr ?_ (by with_reducible assumption) | refine Upd.setCell ?_ (fun h => absurd h (by first | exact Nat.lt_irrefl _ | (simp only []; omega))) _); have ys8 := set4 (V8.block (fun h => h) hS5.out); obtain ⟨s80, s81, s82, s83⟩ := ys8; have ls8 := blk_lt (V8.block (fun h => h) hS5.out); have C8 := Lib.hid (hC5.out.to0 V8))
                        | (go_at_call 39; (with_reducible refine Calls.use (clen_c t _ _ (C8.out.to0 (by repeat first | with_reducible (first | exact Upd.refl _ _ | assumption | apply Upd.drew | apply Upd.alloc) | refine Upd0.tr ?_ (by with_reducible assumption) | refine Upd.setCell ?_ (fun h => absurd h (by first | exact Nat.lt_irrefl _ | (simp only []; omega))) _))) ?_); rintro v w9 ⟨rfl, hu9⟩)
                        | (with_reducible refine wp_serial (by kernel_rfl) (by kernel_rfl) (by repeat with_reducible (first | apply NoBad.then | apply NoBad.inBlock | apply NoBad.jump | exact NoBad.rets)) ?_) | fail)
                      go_roundw
                      case rel => exact ⟨(kp + 1) + 1, cP, by omega, by go_num, show Upd0 w _ from (hu5.tr V8).tr (by repeat first | with_reducible (first | exact Upd.refl _ _ | assumption | apply Upd.drew | apply Upd.alloc) | refine Upd0.tr ?_ (by with_reducible assumption) | refine Upd.setCell ?_ (fun h => absurd h (by first | exact Nat.lt_irrefl _ | (simp only []; omega))) _), Lib.hid (C8.out.to0 (by repeat first | with_reducible (first | exact Upd.refl _ _ | assumption | apply Upd.drew | apply Upd.alloc) | refine Upd0.tr ?_ (by with_reducible assumption) | refine Upd.setCell ?_ (fun h => absurd h (by first | exact Nat.lt_irrefl _ | (simp only []; omega))) _)), hIn⟩
                      case measure => (simp [intOf]; try omega)
end Go.Proofs.Ytijmbpokglohbaa
