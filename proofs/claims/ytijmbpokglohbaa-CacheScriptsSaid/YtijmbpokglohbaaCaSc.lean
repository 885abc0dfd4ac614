/-
  The walk of CacheScripts: a cache answers just what the document says.
-/
import Derived.Test.YtijmbpokglohbaaCaV
import Derived.Test.YtijmbpokglohbaaCaR
import Derived.Test.YtijmbpokglohbaaCaRkW
import Derived.Test.YtijmbpokglohbaaSerP
import Derived.Deep.CutRange
import Derived.Deep.CutBlock
namespace Go.Proofs.Ytijmbpokglohbaa
open Go.RowKit Go.Maps
set_option linter.unusedSimpArgs false
set_option linter.unusedVariables false
variable {B : Nat}
theorem RcT.new {w : World} (room most : Int) (hB : B ≤ w.heap.size) : RcT B (w.alloc (.cells #[.int .i64 room, .int .i64 most, .slice none 0 0, .int .i64 0] 58 (0, 0))) w.heap.size ⟨room, most, 0, []⟩ :=
  ⟨.slice none 0 0, [], alloc_last _ _ _ rfl, World.ownsRow_nil _ _ _ _, rfl, fun m h => (by cases h), hB, fun b h => by cases h⟩
theorem keepOQ {w w' : World} {b : Nat} {c : Array Value} {f : Nat × Nat} (h : w.heap[b]? = some (.cells c 62 f)) (k : UpdQ B w w') : w'.heap[b]? = some (.cells c 62 f) := k.block (fun hk => by rw [h] at hk; exact absurd hk.2 (by simp [kindQ])) h
theorem keepOC {w w' : World} {b : Nat} {c : Array Value} {f : Nat × Nat} (h : w.heap[b]? = some (.cells c 62 f)) (k : UpdC B w w') : w'.heap[b]? = some (.cells c 62 f) := k.block (fun hk => by rw [h] at hk; exact absurd hk.2 (by simp [kindS])) h
theorem RcT.len {w : World} {t : Nat} {c : CS} (h : RcT B w t c) : ∃ ao cap, w.heap[t]? = some (.cells #[.int .i64 c.room, .int .i64 c.most, .slice ao c.L.length cap, .int .i64 c.N] 58 (0, 0)) := by
  obtain ⟨v, M, h⟩ := h
  obtain ⟨ao, cap, rfl⟩ := ownsRow_slice h.row
  have e : M.length = c.L.length := by rw [← h.abs]; simp
  have hb := h.blk
  rw [e] at hb
  exact ⟨ao, cap, hb⟩
theorem hit_memC {c : CS} {nm : Bs} {ty now : Int} {e : CE} (hh : hitB c nm ty now = some e) : e ∈ c.L := by
  unfold hitB at hh
  split at hh
  · exact List.mem_of_find?_eq_some (Option.filter_eq_some_iff.1 hh).1
  · cases hh
theorem DR.to0 {w w' : World} {ao : Option Addr} {l : List Bs} (h : DR w ao l) (k : Upd0 w w') : DR w' ao l := h.to k (fun _ _ _ _ h => h)
theorem DR.toC {w w' : World} {ao : Option Addr} {l : List Bs} (h : DR w ao l) (k : UpdC B w w') : DR w' ao l := h.to k fun g cur fz hg hs => by
  have h1 := hs.2
  rw [(kind_str hg).2] at h1
  cases h1
theorem one_selfC (s : St) : oneS s s = true := by simp [oneS]
set_option maxRecDepth 100000 in
set_option maxHeartbeats 8000000 in
theorem cacheScripts_walk (room most : Int) (aox : Option Addr) (capx : Nat) (xs : List OpE) (w : World) (hX : OpeR w aox xs) (hxl : xs.length ≤ maxLen) :
    Calls Try.prog 9 #[.int .i64 room, .int .i64 most, .slice aox xs.length capx] w (Rets fun r w' => r = .bool true ∧ Upd0 w w') := by
  have hXh := Lib.hid hX
  clear hX
  simp only [maxLen] at hxl
  by_cases hr : 1 ≤ room ∧ room ≤ 200 ∧ 1 ≤ most ∧ most ≤ 2147483647
  case neg =>
    have hm : ¬ (1 ≤ room ∧ room ≤ 200 ∧ 1 ≤ most ∧ most ≤ 2147483647) := hr
    have hway : room < 1 ∨ (¬ room < 1 ∧ 200 < room) ∨ ((¬ room < 1 ∧ ¬ 200 < room) ∧ most < 1) ∨ ((¬ room < 1 ∧ ¬ 200 < room) ∧ (¬ most < 1 ∧ 2147483647 < most)) := by omega
    have hN := Lib.hid (fun w' => cnew_no room most hm w')
    clear hr hm
    rcases hway with h1 | ⟨h1, h2⟩ | ⟨⟨h1, h2⟩, h3⟩ | ⟨⟨h1, h2⟩, h3, h4⟩
    all_goals
      go_enter Try.func9, Try.ntmps9
      go_wp2_with (first
        | (go_at_call 31; (with_reducible refine (hN.out _).use ?_); rintro v w2 ⟨rfl, hu2⟩; have U2 : Upd0 w w2 := (by repeat first | with_reducible (first | exact Upd.refl _ _ | assumption | apply Upd.drew | apply Upd.alloc) | refine Upd0.tr ?_ (by with_reducible assumption) | refine Upd.setCell ?_ (fun h => absurd h (by first | exact Nat.lt_irrefl _ | (simp only []; omega))) _))
        | (go_at_call 32; (with_reducible refine (clive_w _).use ?_); rintro v wl ⟨rfl, hul⟩)
        | (with_reducible refine wp_serial (by kernel_rfl) (by kernel_rfl) (by repeat with_reducible (first | apply NoBad.then | apply NoBad.inBlock | apply NoBad.jump | exact NoBad.rets)) ?_) | fail)
      all_goals go_returns
      all_goals exact ⟨rfl, show Upd0 w _ from U2.tr (by repeat first | with_reducible (first | exact Upd.refl _ _ | assumption | apply Upd.drew | apply Upd.alloc) | refine Upd0.tr ?_ (by with_reducible assumption) | refine Upd.setCell ?_ (fun h => absurd h (by first | exact Nat.lt_irrefl _ | (simp only []; omega))) _)⟩
  case pos =>
    obtain ⟨k1, k2, k3, k4⟩ := hr
    have n1 : ¬ room < 1 := by omega
    have n2 : ¬ 200 < room := by omega
    have n3 : ¬ most < 1 := by omega
    have n4 : ¬ 2147483647 < most := by omega
    have hNw := Lib.hid (fun w' => cnew_w room most k1 k2 k3 k4 w')
    have hok0 := Lib.hid (empty_ok room most k1 k2 k3 k4)
    clear k1 k2 k3 k4
    go_enter Try.func9, Try.ntmps9
    go_wp2_with (first
      | (go_at_call 31; (with_reducible refine (hNw.out _).use ?_); rintro v w2 ⟨t, rfl, hu2, hc2⟩; have U2 : Upd0 w w2 := (by repeat first | with_reducible (first | exact Upd.refl _ _ | assumption | apply Upd.drew | apply Upd.alloc) | refine Upd0.tr ?_ (by with_reducible assumption) | refine Upd.setCell ?_ (fun h => absurd h (by first | exact Nat.lt_irrefl _ | (simp only []; omega))) _); have C2 := Lib.hid (show Ca w.heap.size w2 t ⟨room, most, 0, []⟩ from hc2); have z2 := U2.size; clear hc2)
      | (with_reducible refine wp_serial (by kernel_rfl) (by kernel_rfl) (by repeat with_reducible (first | apply NoBad.then | apply NoBad.inBlock | apply NoBad.jump | exact NoBad.rets)) ?_) | fail)
    have hR0 := Lib.hid (RcT.new (B := w.heap.size) (w := w2) room most z2)
    obtain ⟨kt, hkt⟩ : ∃ kt, w2.heap.size = kt := ⟨_, rfl⟩
    rw [hkt] at hR0
    have hkth := Lib.hid hkt
    have U20 : Upd0 w (w2.alloc (.cells #[.int .i64 room, .int .i64 most, .slice none 0 0, .int .i64 0] 58 (0, 0))) := U2.alloc _
    have C20 := Lib.hid (C2.out.to0 (show Upd0 w2 (w2.alloc (.cells #[.int .i64 room, .int .i64 most, .slice none 0 0, .int .i64 0] 58 (0, 0))) from (by repeat first | with_reducible (first | exact Upd.refl _ _ | assumption | apply Upd.drew | apply Upd.alloc) | refine Upd0.tr ?_ (by with_reducible assumption) | refine Upd.setCell ?_ (fun h => absurd h (by first | exact Nat.lt_irrefl _ | (simp only []; omega))) _)))
    rw [hkt]
    clear hkt
    go_loopw [10] (fun i wr => ∃ (k : Nat) (c : CS), k ≤ xs.length ∧ i = .int .i64 k ∧ Upd0 w wr ∧ Hid (Ca w.heap.size wr t c) ∧ Hid (RcT w.heap.size wr kt c) ∧ Hid (COk c ∧ c.N ≤ k)) (fun i _ => xs.length - (intOf i).toNat)
    case atStart => exact ⟨0, _, Nat.zero_le _, rfl, U20, C20, hR0, Lib.hid ⟨hok0.out, Int.le_refl _⟩⟩
    case round =>
      obtain ⟨k, c, hk, rfl, hu, hC, hR, hI⟩ := hrel
      have zr := hu.size
      by_cases hlt : k < xs.length ∧ k < 60
      case neg =>
        have hx : ¬ k < xs.length ∨ (k < xs.length ∧ ¬ k < 60) := by omega
        clear hlt
        rcases hx with hx | ⟨hx, hx2⟩
        all_goals
          go_wp2_with (first
            | (go_at_call 32; (with_reducible refine (clive_w _).use ?_); rintro v wl ⟨rfl, hul⟩)
            | (with_reducible refine wp_serial (by kernel_rfl) (by kernel_rfl) (by repeat with_reducible (first | apply NoBad.then | apply NoBad.inBlock | apply NoBad.jump | exact NoBad.rets)) ?_) | fail)
          all_goals go_returns
          all_goals exact ⟨rfl, show Upd0 w _ from hu.tr (by repeat first | with_reducible (first | exact Upd.refl _ _ | assumption | apply Upd.drew | apply Upd.alloc) | refine Upd0.tr ?_ (by with_reducible assumption) | refine Upd.setCell ?_ (fun h => absurd h (by first | exact Nat.lt_irrefl _ | (simp only []; omega))) _)⟩
      case pos =>
        obtain ⟨hlt, hl60⟩ := hlt
        obtain ⟨x, hx⟩ : ∃ x, xs[k]? = some x := ⟨xs[k], List.getElem?_eq_getElem hlt⟩
        obtain ⟨g, o, rfl, hg, hxo, p0, p1, p2, p3, p4, p5, p6⟩ := (hXh.out.up hu).some hx
        have hxoh := Lib.hid ((hXh.out).some hx)
        clear hxo hx
        obtain ⟨dO, sx, aX, capX, rkX, nowX⟩ := x
        obtain ⟨nmx, tyx, tlx, dtx⟩ := sx
        have hSX : SR w aX dtx ∧ (Lit.int .i64 tyx).wf = true := by
          obtain ⟨g', o', h1, h2, h3, h4⟩ := hxoh.out
          exact h3
        obtain ⟨hSX, htyx⟩ := hSX
        simp only [] at p0 p1 p2 p3 p4 p5 p6
        have hxX := Lib.hid hSX
        have htyh := Lib.hid htyx
        have hwx := Lib.hid (fun (w' : World) (k : SR w' aX dtx) => cshort_w ⟨nmx, tyx, tlx, dtx⟩ aX capX w' k)
        have hN6 : c.N ≤ 1000000 := by have := hI.out.2; omega
        clear hxoh hSX htyx
        cases hfx : fewS ⟨nmx, tyx, tlx, dtx⟩ with
        | false =>
          rw [hfx] at hwx
          simp only [St.val] at hwx
          clear hfx
          go_wp2_with (first
            | (go_at_call 33; (with_reducible refine (hwx.out _ ((hxX.out.up hu).up (by repeat first | with_reducible (first | exact Upd.refl _ _ | assumption | apply Upd.drew | apply Upd.alloc) | refine Upd0.tr ?_ (by with_reducible assumption) | refine Upd.setCell ?_ (fun h => absurd h (by first | exact Nat.lt_irrefl _ | (simp only []; omega))) _))).use ?_); rintro v w1 ⟨rfl, hu1⟩; have U1 : Upd0 wr w1 := (by repeat first | with_reducible (first | exact Upd.refl _ _ | assumption | apply Upd.drew | apply Upd.alloc) | refine Upd0.tr ?_ (by with_reducible assumption) | refine Upd.setCell ?_ (fun h => absurd h (by first | exact Nat.lt_irrefl _ | (simp only []; omega))) _); have y1 := Lib.hid (show w1.heap[wr.heap.size]? = some (.cells #[.int .i64 dO, .string ⟨nmx.toArray⟩, .int .i64 tyx, .int .i64 tlx, .slice aX dtx.length capX, .int .i64 rkX, .int .i64 nowX] 62 (0, 0)) from hu1.block (fun h => h) (alloc_last _ _ wr.heap.size rfl)); have yc := set7 y1.out; obtain ⟨c0, c1, c2, c3, c4, c5, c6⟩ := yc; have z1 := U1.size; have l1 := blk_lt y1.out; have xg1 := Nat.lt_of_lt_of_le hg z1)
            | (go_at_call 32; (with_reducible refine (clive_w _).use ?_); rintro v wl ⟨rfl, hul⟩)
            | (with_reducible refine wp_serial (by kernel_rfl) (by kernel_rfl) (by repeat with_reducible (first | apply NoBad.then | apply NoBad.inBlock | apply NoBad.jump | exact NoBad.rets)) ?_) | fail)
          all_goals go_returns
          all_goals exact ⟨rfl, show Upd0 w _ from (hu.tr U1).tr (by repeat first | with_reducible (first | exact Upd.refl _ _ | assumption | apply Upd.drew | apply Upd.alloc) | refine Upd0.tr ?_ (by with_reducible assumption) | refine Upd.setCell ?_ (fun h => absurd h (by first | exact Nat.lt_irrefl _ | (simp only []; omega))) _)⟩
        | true =>
          rw [hfx] at hwx
          simp only [St.val] at hwx
          have hnm7 : nmx.length ≤ 70000 := by have := (fewS_num hfx).2.1; simp only [] at this; omega
          have tk1 : True := trivial
          by_cases hd : dO = 0
          · subst hd
            obtain ⟨cP, hcP⟩ : ∃ cP, putS c ⟨nmx, tyx, tlx, dtx⟩ rkX nowX = cP := ⟨_, rfl⟩
            obtain ⟨f, hf⟩ : ∃ f, putI c ⟨nmx, tyx, tlx, dtx⟩ rkX nowX = f := ⟨_, rfl⟩
            have hPx := Lib.hid (fun (t : Nat) (w' : World) (hB : w.heap.size ≤ w'.heap.size) (h : Ca w.heap.size w' t c) (k : Stay w.heap.size w' aX dtx) => (show Calls Try.prog 34 #[.pointer (some ⟨t, 0, none⟩), .agg #[.string ⟨nmx.toArray⟩, .int .i64 tyx, .int .i64 tlx, .slice aX dtx.length capX], .int .i64 rkX, .int .i64 nowX] w' (Rets fun r w'' => r = .int .i64 f ∧ UpdQ w.heap.size w' w'' ∧ Ca w.heap.size w'' t cP) from by rw [← hcP, ← hf]; exact cput_w t c ⟨nmx, tyx, tlx, dtx⟩ aX capX rkX nowX w' hI.out.1 hN6 hfx hB h k))
            have hRx := Lib.hid (fun (t : Nat) (w' : World) (hB : w.heap.size ≤ w'.heap.size) (h : RcT w.heap.size w' t c) (k : StayC w.heap.size w' aX dtx) => (show Calls Try.prog 35 #[.pointer (some ⟨t, 0, none⟩), .agg #[.string ⟨nmx.toArray⟩, .int .i64 tyx, .int .i64 tlx, .slice aX dtx.length capX], .int .i64 rkX, .int .i64 nowX] w' (Rets fun r w'' => r = .int .i64 f ∧ UpdC w.heap.size w' w'' ∧ RcT w.heap.size w'' t cP) from by rw [← hcP, ← hf]; exact rput_w t c ⟨nmx, tyx, tlx, dtx⟩ aX capX rkX nowX w' hI.out.1 hN6 hfx hB h k))
            have hIn := Lib.hid (show COk cP ∧ cP.N ≤ c.N + 1 by rw [← hcP]; exact ⟨putS_ok hI.out.1 hfx, putS_N _ _ _ _⟩)
            clear hfx hcP hf
            go_upto_region 14 with (first
              | (go_at_call 33; (with_reducible refine (hwx.out _ ((hxX.out.up hu).up (by repeat first | with_reducible (first | exact Upd.refl _ _ | assumption | apply Upd.drew | apply Upd.alloc) | refine Upd0.tr ?_ (by with_reducible assumption) | refine Upd.setCell ?_ (fun h => absurd h (by first | exact Nat.lt_irrefl _ | (simp only []; omega))) _))).use ?_); rintro v w1 ⟨rfl, hu1⟩; have U1 : Upd0 wr w1 := (by repeat first | with_reducible (first | exact Upd.refl _ _ | assumption | apply Upd.drew | apply Upd.alloc) | refine Upd0.tr ?_ (by with_reducible assumption) | refine Upd.setCell ?_ (fun h => absurd h (by first | exact Nat.lt_irrefl _ | (simp only []; omega))) _); have y1 := Lib.hid (show w1.heap[wr.heap.size]? = some (.cells #[.int .i64 0, .string ⟨nmx.toArray⟩, .int .i64 tyx, .int .i64 tlx, .slice aX dtx.length capX, .int .i64 rkX, .int .i64 nowX] 62 (0, 0)) from hu1.block (fun h => h) (alloc_last _ _ wr.heap.size rfl)); have yc := set7 y1.out; obtain ⟨c0, c1, c2, c3, c4, c5, c6⟩ := yc; have z1 := U1.size; have l1 := blk_lt y1.out; have xg1 := Nat.lt_of_lt_of_le hg z1)
              | (with_reducible refine wp_serial (by kernel_rfl) (by kernel_rfl) (by repeat with_reducible (first | apply NoBad.then | apply NoBad.inBlock | apply NoBad.jump | exact NoBad.rets)) ?_) | fail)
            go_cut [95] from 57 to 145 (fun b wx => b = .bool false ∧ Upd0 w wx ∧ Hid (Ca w.heap.size wx t cP) ∧ Hid (RcT w.heap.size wx kt cP))
            case first =>
              have U1d : Upd0 wr w1.drew := U1.drew
              go_wp2_with (first
                | (with_reducible refine S9.wp_serial222 10 7 12 7 14 7 [0, 1, 2, 3, 4, 5, 6, 7, 8, 9, 10, 11, 12, 13, 14, 15, 16] [0, 1, 2, 3, 4, 5, 6, 13, 14, 7, 8, 9, 10, 11, 12, 15, 16] [0, 1, 2, 3, 4, 5, 6, 11, 12, 7, 8, 9, 10, 13, 14, 15, 16] [0, 1, 2, 3, 4, 5, 6, 11, 12, 13, 14, 7, 8, 9, 10, 15, 16] [0, 1, 2, 3, 4, 5, 6, 9, 10, 7, 8, 11, 12, 13, 14, 15, 16] [0, 1, 2, 3, 4, 5, 6, 9, 10, 13, 14, 7, 8, 11, 12, 15, 16] [0, 1, 2, 3, 4, 5, 6, 9, 10, 11, 12, 7, 8, 13, 14, 15, 16] [0, 1, 2, 3, 4, 5, 6, 9, 10, 11, 12, 13, 14, 7, 8, 15, 16] [_, _, _, _, _, _, _, _, _, _, _, _, _, _, _, _, _] [_, _, _, _, _, _, _, _, _, _, _, _, _, _, _, _, _] [_, _, _, _, _, _, _, _, _, _, _, _, _, _, _, _, _] [_, _, _, _, _, _, _, _, _, _, _, _, _, _, _, _, _] [_, _, _, _, _, _, _, _, _, _, _, _, _, _, _, _, _] [_, _, _, _, _, _, _, _, _, _, _, _, _, _, _, _, _] [_, _, _, _, _, _, _, _, _, _, _, _, _, _, _, _, _] [_, _, _, _, _, _, _, _, _, _, _, _, _, _, _, _, _] (by kernel_rfl) (by decide +kernel) rfl rfl rfl rfl rfl rfl rfl rfl (by repeat with_reducible (first | apply NoBad.then | apply NoBad.inBlock | apply NoBad.jump | exact NoBad.rets)) ?_ ?_ ?_ ?_ ?_ ?_ ?_ ?_)
                | (go_at_call 34; refine Calls.use (hPx.out t _ (Nat.le_trans zr z1) (hC.out.to0 U1d) (Stay.of hxX.out (hu.tr U1d))) ?_; rintro v w2 ⟨rfl, hq2, hc2⟩; have U2x : Upd0 w w2 := UpdQ.fin (hu.tr U1d) hq2; have z2x := U2x.size; have y2 := Lib.hid (keepOQ (w := w1.drew) y1.out hq2); have yd := set7 y2.out; obtain ⟨d0, d1, d2, d3, d4, d5, d6⟩ := yd; have l2 := blk_lt y2.out; have R2 := Lib.hid ((hR.out.to0 U1d).toQ hq2); have C2x := Lib.hid hc2; clear hc2)
                | (go_at_call 35; (with_reducible refine (hRx.out kt _ z2x R2.out (StayC.of hxX.out U2x)).use ?_); rintro v w3 ⟨rfl, hq3, hc3⟩; have U3x : Upd0 w w3 := UpdC.fin U2x hq3; have C3x := Lib.hid (C2x.out.toC hq3); have R3x := Lib.hid hc3; clear hc3)
                | (with_reducible refine wp_serial (by kernel_rfl) (by kernel_rfl) (by repeat with_reducible (first | apply NoBad.then | apply NoBad.inBlock | apply NoBad.jump | exact NoBad.rets)) ?_) | fail)
              all_goals go_meet
              all_goals exact ⟨by simp, U3x.tr (by repeat first | with_reducible (first | exact Upd.refl _ _ | assumption | apply Upd.drew | apply Upd.alloc) | refine Upd0.tr ?_ (by with_reducible assumption) | refine Upd.setCell ?_ (fun h => absurd h (by first | exact Nat.lt_irrefl _ | (simp only []; omega))) _), Lib.hid (C3x.out.to0 (by repeat first | with_reducible (first | exact Upd.refl _ _ | assumption | apply Upd.drew | apply Upd.alloc) | refine Upd0.tr ?_ (by with_reducible assumption) | refine Upd.setCell ?_ (fun h => absurd h (by first | exact Nat.lt_irrefl _ | (simp only []; omega))) _)), Lib.hid (R3x.out.to0 (by repeat first | with_reducible (first | exact Upd.refl _ _ | assumption | apply Upd.drew | apply Upd.alloc) | refine Upd0.tr ?_ (by with_reducible assumption) | refine Upd.setCell ?_ (fun h => absurd h (by first | exact Nat.lt_irrefl _ | (simp only []; omega))) _))⟩
            case rest =>
              obtain ⟨rfl, hU, C3, R3⟩ := hcut
              obtain ⟨ao5, cap5, hb5⟩ := R3.out.len
              obtain ⟨s0, s1, s2, s3⟩ := set4 hb5
              have hl5 := blk_lt hb5
              clear hb5
              go_wp2_with (first
                | (go_at_call 39; (with_reducible refine Calls.use (clen_c t _ _ (C3.out.to0 (by repeat first | with_reducible (first | exact Upd.refl _ _ | assumption | apply Upd.drew | apply Upd.alloc) | refine Upd0.tr ?_ (by with_reducible assumption) | refine Upd.setCell ?_ (fun h => absurd h (by first | exact Nat.lt_irrefl _ | (simp only []; omega))) _))) ?_); rintro v w9 ⟨rfl, hu9⟩)
                | (with_reducible refine wp_serial3_1 0 [] [0, 2, 3, 4, 5] 1 [6, 7] [_, _, _, _, _] _ [_, _] (by kernel_rfl) (by decide +kernel) rfl rfl rfl ⟨Nat.zero_le _, fun s hs => absurd hs List.not_mem_nil⟩ (by repeat with_reducible (first | apply NoBad.then | apply NoBad.inBlock | apply NoBad.jump | exact NoBad.rets)) ?_)
                | (refine And.intro hu9.ext ?_)
                | (with_reducible refine wp_serial (by kernel_rfl) (by kernel_rfl) (by repeat with_reducible (first | apply NoBad.then | apply NoBad.inBlock | apply NoBad.jump | exact NoBad.rets)) ?_) | fail)
              go_roundw
              case rel => exact ⟨k + 1, cP, by omega, by go_num, show Upd0 w _ from hU.tr (by repeat first | with_reducible (first | exact Upd.refl _ _ | assumption | apply Upd.drew | apply Upd.alloc) | refine Upd0.tr ?_ (by with_reducible assumption) | refine Upd.setCell ?_ (fun h => absurd h (by first | exact Nat.lt_irrefl _ | (simp only []; omega))) _), Lib.hid (C3.out.to0 (by repeat first | with_reducible (first | exact Upd.refl _ _ | assumption | apply Upd.drew | apply Upd.alloc) | refine Upd0.tr ?_ (by with_reducible assumption) | refine Upd.setCell ?_ (fun h => absurd h (by first | exact Nat.lt_irrefl _ | (simp only []; omega))) _)), Lib.hid (R3.out.to0 (by repeat first | with_reducible (first | exact Upd.refl _ _ | assumption | apply Upd.drew | apply Upd.alloc) | refine Upd0.tr ?_ (by with_reducible assumption) | refine Upd.setCell ?_ (fun h => absurd h (by first | exact Nat.lt_irrefl _ | (simp only []; omega))) _)), Lib.hid ⟨hIn.out.1, by have h1 := hIn.out.2; have h2 := hI.out.2; omega⟩⟩
              case measure => (simp [intOf]; try omega)
          · clear hfx
            cases hh : hitB c nmx tyx nowX with
            | none =>
              have hGx := Lib.hid (fun (t : Nat) (w' : World) (hB : w.heap.size ≤ w'.heap.size) (h : Ca w.heap.size w' t c) => (show Calls Try.prog 36 #[.pointer (some ⟨t, 0, none⟩), .string ⟨nmx.toArray⟩, .int .i64 tyx, .int .i64 nowX] w' (Rets fun r w'' => r = .tuple #[.agg #[.string ⟨([] : Bs).toArray⟩, .int .i64 0, .int .i64 0, .slice none 0 0], .int .i64 0, .bool false] ∧ Upd0 w' w'') from cget_miss t c nmx tyx nowX w' hI.out.1 hnm7 htyh.out h hh))
              have hRx := Lib.hid (fun (t : Nat) (w' : World) (h : RcT w.heap.size w' t c) => (show Calls Try.prog 37 #[.pointer (some ⟨t, 0, none⟩), .string ⟨nmx.toArray⟩, .int .i64 tyx, .int .i64 nowX] w' (Rets fun r w'' => r = .tuple #[.agg #[.string ⟨([] : Bs).toArray⟩, .int .i64 0, .int .i64 0, .slice none 0 0], .int .i64 0, .bool false] ∧ Upd0 w' w'') from rget_no t c nmx tyx nowX w' hI.out.1 hnm7 h hh))
              have hOne := Lib.hid (fun (w' : World) => (show Calls Try.prog 38 #[.agg #[.string ⟨([] : Bs).toArray⟩, .int .i64 0, .int .i64 0, .slice none 0 0], .agg #[.string ⟨([] : Bs).toArray⟩, .int .i64 0, .int .i64 0, .slice none 0 0]] w' (Rets fun r w'' => r = .bool true ∧ Upd0 w' w'') from by have h3 := one_w ⟨[], 0, 0, []⟩ ⟨[], 0, 0, []⟩ none none 0 0 w' (.inl rfl) (.inl rfl) (by simp) (by simp); rw [one_selfC] at h3; exact h3))
              clear hh
              obtain ⟨ao5, cap5, hb5⟩ := hR.out.len
              have hb5h := Lib.hid hb5
              have hl5 := blk_lt hb5
              clear hb5
              go_wp2_with (first
                | (go_at_call 33; (with_reducible refine (hwx.out _ ((hxX.out.up hu).up (by repeat first | with_reducible (first | exact Upd.refl _ _ | assumption | apply Upd.drew | apply Upd.alloc) | refine Upd0.tr ?_ (by with_reducible assumption) | refine Upd.setCell ?_ (fun h => absurd h (by first | exact Nat.lt_irrefl _ | (simp only []; omega))) _))).use ?_); rintro v w1 ⟨rfl, hu1⟩; have U1 : Upd0 wr w1 := (by repeat first | with_reducible (first | exact Upd.refl _ _ | assumption | apply Upd.drew | apply Upd.alloc) | refine Upd0.tr ?_ (by with_reducible assumption) | refine Upd.setCell ?_ (fun h => absurd h (by first | exact Nat.lt_irrefl _ | (simp only []; omega))) _); have y1 := Lib.hid (show w1.heap[wr.heap.size]? = some (.cells #[.int .i64 dO, .string ⟨nmx.toArray⟩, .int .i64 tyx, .int .i64 tlx, .slice aX dtx.length capX, .int .i64 rkX, .int .i64 nowX] 62 (0, 0)) from hu1.block (fun h => h) (alloc_last _ _ wr.heap.size rfl)); have yc := set7 y1.out; obtain ⟨c0, c1, c2, c3, c4, c5, c6⟩ := yc; have z1 := U1.size; have l1 := blk_lt y1.out; have xg1 := Nat.lt_of_lt_of_le hg z1)
                | (go_at_call 36; (with_reducible refine (hGx.out t _ (Nat.le_trans zr z1) (hC.out.to0 U1)).use ?_); rintro v w2 ⟨rfl, hu2⟩; have V2 : Upd0 wr w2 := U1.tr hu2; have U2x : Upd0 w w2 := hu.tr V2; have y2 := Lib.hid (hu2.block (fun h => h) y1.out); have yd := set7 y2.out; obtain ⟨d0, d1, d2, d3, d4, d5, d6⟩ := yd; have l2 := blk_lt y2.out)
                | (go_at_call 37; (with_reducible refine (hRx.out kt _ (hR.out.to0 (show Upd0 wr _ from V2.tr (by repeat first | with_reducible (first | exact Upd.refl _ _ | assumption | apply Upd.drew | apply Upd.alloc) | refine Upd0.tr ?_ (by with_reducible assumption) | refine Upd.setCell ?_ (fun h => absurd h (by first | exact Nat.lt_irrefl _ | (simp only []; omega))) _)))).use ?_); rintro v w3 ⟨rfl, hu3⟩; have V3 : Upd0 wr w3 := V2.tr (by repeat first | with_reducible (first | exact Upd.refl _ _ | assumption | apply Upd.drew | apply Upd.alloc) | refine Upd0.tr ?_ (by with_reducible assumption) | refine Upd.setCell ?_ (fun h => absurd h (by first | exact Nat.lt_irrefl _ | (simp only []; omega))) _); have yA := set4 (hu3.block (fun h => h) (alloc_last _ _ w2.heap.size rfl)); obtain ⟨a0, a1, a2, a3⟩ := yA; have hz3 := hu3.size; have lA : w2.heap.size < w3.heap.size := (by simp at hz3; omega))
                | (go_at_call 38; (with_reducible refine (hOne.out _).use ?_); rintro v w4 ⟨rfl, hu4⟩; have V4 : Upd0 wr w4 := V3.tr (by repeat first | with_reducible (first | exact Upd.refl _ _ | assumption | apply Upd.drew | apply Upd.alloc) | refine Upd0.tr ?_ (by with_reducible assumption) | refine Upd.setCell ?_ (fun h => absurd h (by first | exact Nat.lt_irrefl _ | (simp only []; omega))) _); have U4x : Upd0 w w4 := hu.tr V4; have ys := set4 (V4.block (fun h => h) hb5h.out); obtain ⟨s0, s1, s2, s3⟩ := ys; have hl54 := Nat.lt_of_lt_of_le hl5 V4.size)
                | (go_at_call 39; (with_reducible refine Calls.use (clen_c t _ _ ((hC.out.to0 V4 |> Lib.hid).out.to0 (by repeat first | with_reducible (first | exact Upd.refl _ _ | assumption | apply Upd.drew | apply Upd.alloc) | refine Upd0.tr ?_ (by with_reducible assumption) | refine Upd.setCell ?_ (fun h => absurd h (by first | exact Nat.lt_irrefl _ | (simp only []; omega))) _))) ?_); rintro v w9 ⟨rfl, hu9⟩)
                | (with_reducible refine wp_serial3_1 0 [] [0, 2, 3, 4, 5] 1 [6, 7] [_, _, _, _, _] _ [_, _] (by kernel_rfl) (by decide +kernel) rfl rfl rfl ⟨Nat.zero_le _, fun s hs => absurd hs List.not_mem_nil⟩ (by repeat with_reducible (first | apply NoBad.then | apply NoBad.inBlock | apply NoBad.jump | exact NoBad.rets)) ?_)
                | (refine And.intro hu9.ext ?_)
                | (with_reducible refine wp_serial (by kernel_rfl) (by kernel_rfl) (by repeat with_reducible (first | apply NoBad.then | apply NoBad.inBlock | apply NoBad.jump | exact NoBad.rets)) ?_) | fail)
              go_roundw
              case rel => exact ⟨k + 1, c, by omega, by go_num, show Upd0 w _ from U4x.tr (by repeat first | with_reducible (first | exact Upd.refl _ _ | assumption | apply Upd.drew | apply Upd.alloc) | refine Upd0.tr ?_ (by with_reducible assumption) | refine Upd.setCell ?_ (fun h => absurd h (by first | exact Nat.lt_irrefl _ | (simp only []; omega))) _), Lib.hid ((hC.out.to0 V4).to0 (by repeat first | with_reducible (first | exact Upd.refl _ _ | assumption | apply Upd.drew | apply Upd.alloc) | refine Upd0.tr ?_ (by with_reducible assumption) | refine Upd.setCell ?_ (fun h => absurd h (by first | exact Nat.lt_irrefl _ | (simp only []; omega))) _)), Lib.hid ((hR.out.to0 V4).to0 (by repeat first | with_reducible (first | exact Upd.refl _ _ | assumption | apply Upd.drew | apply Upd.alloc) | refine Upd0.tr ?_ (by with_reducible assumption) | refine Upd.setCell ?_ (fun h => absurd h (by first | exact Nat.lt_irrefl _ | (simp only []; omega))) _)), Lib.hid ⟨hI.out.1, by have h2 := hI.out.2; omega⟩⟩
              case measure => (simp [intOf]; try omega)
            | some e =>
              have hmem := hit_memC hh
              have hdl := (hI.out.1.ent e hmem).dl
              have hGx := Lib.hid (fun (t : Nat) (w' : World) (hB : w.heap.size ≤ w'.heap.size) (h : Ca w.heap.size w' t c) => (show Calls Try.prog 36 #[.pointer (some ⟨t, 0, none⟩), .string ⟨nmx.toArray⟩, .int .i64 tyx, .int .i64 nowX] w' (Rets fun r w'' => ∃ ao cap, r = .tuple #[.agg #[.string ⟨e.nm.toArray⟩, .int .i64 e.ty, .int .i64 (e.en - nowX), .slice ao e.dt.length cap], .int .i64 e.rk, .bool true] ∧ UpdQ w.heap.size w' w'' ∧ Ca w.heap.size w'' t (bumpC c (fold nmx) tyx) ∧ DR w'' ao e.dt) from cget_hit t c nmx tyx nowX e w' hI.out.1 hN6 hnm7 htyh.out hB h hh))
              have hRx := Lib.hid (fun (t : Nat) (w' : World) (hB : w.heap.size ≤ w'.heap.size) (h : RcT w.heap.size w' t c) => (show Calls Try.prog 37 #[.pointer (some ⟨t, 0, none⟩), .string ⟨nmx.toArray⟩, .int .i64 tyx, .int .i64 nowX] w' (Rets fun r w'' => ∃ ao cap, r = .tuple #[.agg #[.string ⟨e.nm.toArray⟩, .int .i64 e.ty, .int .i64 (e.en - nowX), .slice ao e.dt.length cap], .int .i64 e.rk, .bool true] ∧ UpdC w.heap.size w' w'' ∧ RcT w.heap.size w'' t (bumpC c (fold nmx) tyx) ∧ DR w'' ao e.dt) from rget_yes t c nmx tyx nowX e w' hI.out.1 hN6 hnm7 hB h hh))
              have hOne := Lib.hid (fun (a b : Option Addr) (ca cb : Nat) (w' : World) (h1 : SR w' a e.dt) (h2 : SR w' b e.dt) => (show Calls Try.prog 38 #[.agg #[.string ⟨e.nm.toArray⟩, .int .i64 e.ty, .int .i64 (e.en - nowX), .slice a e.dt.length ca], .agg #[.string ⟨e.nm.toArray⟩, .int .i64 e.ty, .int .i64 (e.en - nowX), .slice b e.dt.length cb]] w' (Rets fun r w'' => r = .bool true ∧ Upd0 w' w'') from by have h3 := one_w ⟨e.nm, e.ty, e.en - nowX, e.dt⟩ ⟨e.nm, e.ty, e.en - nowX, e.dt⟩ a b ca cb w' h1 h2 (by simp only []; omega) (by simp only []; omega); rw [one_selfC] at h3; exact h3))
              have hIn := Lib.hid (show COk (bumpC c (fold nmx) tyx) ∧ (bumpC c (fold nmx) tyx).N = c.N + 1 from ⟨bumpC_ok hI.out.1 _ _, rfl⟩)
              clear hh hmem
              obtain ⟨cP, hcP⟩ : ∃ cP, bumpC c (fold nmx) tyx = cP := ⟨_, rfl⟩
              rw [hcP] at hGx hRx hIn
              clear hcP
              go_wp2_with (first
                | (go_at_call 33; (with_reducible refine (hwx.out _ ((hxX.out.up hu).up (by repeat first | with_reducible (first | exact Upd.refl _ _ | assumption | apply Upd.drew | apply Upd.alloc) | refine Upd0.tr ?_ (by with_reducible assumption) | refine Upd.setCell ?_ (fun h => absurd h (by first | exact Nat.lt_irrefl _ | (simp only []; omega))) _))).use ?_); rintro v w1 ⟨rfl, hu1⟩; have U1 : Upd0 wr w1 := (by repeat first | with_reducible (first | exact Upd.refl _ _ | assumption | apply Upd.drew | apply Upd.alloc) | refine Upd0.tr ?_ (by with_reducible assumption) | refine Upd.setCell ?_ (fun h => absurd h (by first | exact Nat.lt_irrefl _ | (simp only []; omega))) _); have y1 := Lib.hid (show w1.heap[wr.heap.size]? = some (.cells #[.int .i64 dO, .string ⟨nmx.toArray⟩, .int .i64 tyx, .int .i64 tlx, .slice aX dtx.length capX, .int .i64 rkX, .int .i64 nowX] 62 (0, 0)) from hu1.block (fun h => h) (alloc_last _ _ wr.heap.size rfl)); have yc := set7 y1.out; obtain ⟨c0, c1, c2, c3, c4, c5, c6⟩ := yc; have z1 := U1.size; have l1 := blk_lt y1.out; have xg1 := Nat.lt_of_lt_of_le hg z1)
                | (go_at_call 36; (with_reducible refine (hGx.out t _ (Nat.le_trans zr z1) (hC.out.to0 U1)).use ?_); rintro v w2 ⟨ao2, cap2, rfl, hq2, hc2, hd2⟩; have U2x : Upd0 w w2 := UpdQ.fin (hu.tr U1) hq2; have z2x := U2x.size; have y2 := Lib.hid (keepOQ y1.out hq2); have yd := set7 y2.out; obtain ⟨d0, d1, d2, d3, d4, d5, d6⟩ := yd; have l2 := blk_lt y2.out; have R2 := Lib.hid ((hR.out.to0 U1).toQ hq2); have C2x := Lib.hid hc2; have D2 := Lib.hid hd2; clear hc2 hd2)
                | (go_at_call 37; refine Calls.use (hRx.out kt _ (by simp only [World.size_alloc]; omega) (R2.out.to0 (show Upd0 w2 _ from (by repeat first | with_reducible (first | exact Upd.refl _ _ | assumption | apply Upd.drew | apply Upd.alloc) | refine Upd0.tr ?_ (by with_reducible assumption) | refine Upd.setCell ?_ (fun h => absurd h (by first | exact Nat.lt_irrefl _ | (simp only []; omega))) _)))) ?_; rintro v w3 ⟨ao3, cap3, rfl, hq3, hc3, hd3⟩; have U3x : Upd0 w w3 := UpdC.fin (show Upd0 w (w2.alloc _) from (by repeat first | with_reducible (first | exact Upd.refl _ _ | assumption | apply Upd.drew | apply Upd.alloc) | refine Upd0.tr ?_ (by with_reducible assumption) | refine Upd.setCell ?_ (fun h => absurd h (by first | exact Nat.lt_irrefl _ | (simp only []; omega))) _)) hq3; have C3x := Lib.hid ((C2x.out.to0 (show Upd0 w2 (w2.alloc _) from (by repeat first | with_reducible (first | exact Upd.refl _ _ | assumption | apply Upd.drew | apply Upd.alloc) | refine Upd0.tr ?_ (by with_reducible assumption) | refine Upd.setCell ?_ (fun h => absurd h (by first | exact Nat.lt_irrefl _ | (simp only []; omega))) _))).toC hq3); have R3x := Lib.hid hc3; have D3 := Lib.hid hd3; have D3a := Lib.hid ((D2.out.to0 (show Upd0 w2 (w2.alloc _) from (by repeat first | with_reducible (first | exact Upd.refl _ _ | assumption | apply Upd.drew | apply Upd.alloc) | refine Upd0.tr ?_ (by with_reducible assumption) | refine Upd.setCell ?_ (fun h => absurd h (by first | exact Nat.lt_irrefl _ | (simp only []; omega))) _))).toC hq3); have yA := Lib.hid (keepC (alloc_last _ _ w2.heap.size rfl) hq3); have yAA := set4 yA.out; obtain ⟨a0, a1, a2, a3⟩ := yAA; have lA := blk_lt yA.out; clear hc3 hd3)
                | (go_at_call 38; refine Calls.use (hOne.out ao2 ao3 cap2 cap3 _ (D3a.out.1.up (by repeat first | with_reducible (first | exact Upd.refl _ _ | assumption | apply Upd.drew | apply Upd.alloc) | refine Upd0.tr ?_ (by with_reducible assumption) | refine Upd.setCell ?_ (fun h => absurd h (by first | exact Nat.lt_irrefl _ | (simp only []; omega))) _)) (D3.out.1.up (by repeat first | with_reducible (first | exact Upd.refl _ _ | assumption | apply Upd.drew | apply Upd.alloc) | refine Upd0.tr ?_ (by with_reducible assumption) | refine Upd.setCell ?_ (fun h => absurd h (by first | exact Nat.lt_irrefl _ | (simp only []; omega))) _))) ?_; rintro v w4 ⟨rfl, hu4⟩; have V4 : Upd0 w3 w4 := (by repeat first | with_reducible (first | exact Upd.refl _ _ | assumption | apply Upd.drew | apply Upd.alloc) | refine Upd0.tr ?_ (by with_reducible assumption) | refine Upd.setCell ?_ (fun h => absurd h (by first | exact Nat.lt_irrefl _ | (simp only []; omega))) _); have U4x : Upd0 w w4 := U3x.tr V4; have C4x := Lib.hid (C3x.out.to0 V4); have R4x := Lib.hid (R3x.out.to0 V4); have hlen4 := R4x.out.len; obtain ⟨ao5, cap5, hb5⟩ := hlen4; have ys := set4 hb5; obtain ⟨s0, s1, s2, s3⟩ := ys; have hl54 := blk_lt hb5; clear hb5)
                | (go_at_call 39; (with_reducible refine Calls.use (clen_c t _ _ (C4x.out.to0 (by repeat first | with_reducible (first | exact Upd.refl _ _ | assumption | apply Upd.drew | apply Upd.alloc) | refine Upd0.tr ?_ (by with_reducible assumption) | refine Upd.setCell ?_ (fun h => absurd h (by first | exact Nat.lt_irrefl _ | (simp only []; omega))) _))) ?_); rintro v w9 ⟨rfl, hu9⟩)
                | (with_reducible refine wp_serial3_1 0 [] [0, 2, 3, 4, 5] 1 [6, 7] [_, _, _, _, _] _ [_, _] (by kernel_rfl) (by decide +kernel) rfl rfl rfl ⟨Nat.zero_le _, fun s hs => absurd hs List.not_mem_nil⟩ (by repeat with_reducible (first | apply NoBad.then | apply NoBad.inBlock | apply NoBad.jump | exact NoBad.rets)) ?_)
                | (refine And.intro hu9.ext ?_)
                | (with_reducible refine wp_serial (by kernel_rfl) (by kernel_rfl) (by repeat with_reducible (first | apply NoBad.then | apply NoBad.inBlock | apply NoBad.jump | exact NoBad.rets)) ?_) | fail)
              go_roundw
              case rel => exact ⟨k + 1, cP, by omega, by go_num, show Upd0 w _ from U4x.tr (by repeat first | with_reducible (first | exact Upd.refl _ _ | assumption | apply Upd.drew | apply Upd.alloc) | refine Upd0.tr ?_ (by with_reducible assumption) | refine Upd.setCell ?_ (fun h => absurd h (by first | exact Nat.lt_irrefl _ | (simp only []; omega))) _), Lib.hid (C4x.out.to0 (by repeat first | with_reducible (first | exact Upd.refl _ _ | assumption | apply Upd.drew | apply Upd.alloc) | refine Upd0.tr ?_ (by with_reducible assumption) | refine Upd.setCell ?_ (fun h => absurd h (by first | exact Nat.lt_irrefl _ | (simp only []; omega))) _)), Lib.hid (R4x.out.to0 (by repeat first | with_reducible (first | exact Upd.refl _ _ | assumption | apply Upd.drew | apply Upd.alloc) | refine Upd0.tr ?_ (by with_reducible assumption) | refine Upd.setCell ?_ (fun h => absurd h (by first | exact Nat.lt_irrefl _ | (simp only []; omega))) _)), Lib.hid ⟨hIn.out.1, by have h1 := hIn.out.2; have h2 := hI.out.2; omega⟩⟩
              case measure => (simp [intOf]; try omega)
end Go.Proofs.Ytijmbpokglohbaa
