/-
  Soa, of both.
-/
import Derived.Test.YtdjleplefbmjbaaRdE
namespace Go.Proofs.Ytdjleplefbmjbaa
open Go.RowKit
set_option linter.unusedSimpArgs false
set_option linter.unusedVariables false
structure So where
  main : Bs
  mail : Bs
  se : Int
  re : Int
  rt : Int
  ex : Int
  mi : Int
def So.val (s : So) : Value := .agg #[.string ⟨s.main.toArray⟩, .string ⟨s.mail.toArray⟩, .int .i64 s.se, .int .i64 s.re, .int .i64 s.rt, .int .i64 s.ex, .int .i64 s.mi]
def So.nums (s : So) : List Int := [s.re, s.rt, s.ex, s.mi]
def numOk (x : Int) : Bool := decide (0 ≤ x) && decide (x ≤ 2147483647)
def So.ok (s : So) : Bool := cutB s.main && cutB s.mail && decide (0 ≤ s.se) && decide (s.se ≤ 4294967295) && s.nums.all numOk
def So.tl (s : So) (k : Nat) : Bs := (s.nums.take k).flatMap fun x => w4 x.toNat
def So.hd (s : So) : Bs := s.main ++ 0 :: (s.mail ++ [0]) ++ w4 s.se.toNat
def So.bytes (s : So) : Bs := if s.ok then s.hd ++ s.tl 4 else []
def So.code (s : So) : Int := if s.ok then 0 else 1
theorem cutB_len {s : Bs} (h : cutB s = true) : s.length ≤ 254 := by
  unfold cutB cutO at h
  split at h
  · cases h
  · omega
theorem br_upd0 {e : TypeId} {w wr w2 : World} {v : Value} {l : Bs} (h : Upd0 w wr) (hb : BR e w.heap.size wr v l) (k : Upd (fun k => v.ownBlock = some k) wr w2) : Upd0 w w2 :=
  Upd.trans h k (fun n hn e => by have := (hb.lt e).1; omega)
theorem so_tl (s : So) {k : Nat} {x : Int} (h : s.nums[k]? = some x) : s.tl (k + 1) = s.tl k ++ w4 x.toNat := by
  rw [So.tl, So.tl, List.take_add_one, h]; simp
theorem so_len (s : So) (k : Nat) : (s.tl k).length ≤ 16 := by
  have : ∀ l : List Int, (l.flatMap fun x => w4 x.toNat).length = 4 * l.length := by
    intro l; induction l with
    | nil => rfl
    | cons x l ih => rw [List.flatMap_cons, List.length_append, ih, List.length_cons]; simp only [w4, List.length_cons, List.length_nil]; omega
  rw [So.tl, this]
  have := List.length_take_le k s.nums
  have h2 : (s.nums.take k).length ≤ s.nums.length := by rw [List.length_take]; omega
  have h3 : s.nums.length = 4 := rfl
  omega
theorem so_all (s : So) {k : Nat} {x : Int} (h : s.nums[k]? = some x) (hx : numOk x = false) : s.nums.all numOk = false := by
  rw [List.all_eq_false]
  exact ⟨x, List.mem_of_getElem? h, by simp [hx]⟩
theorem arr4_0 (a b c d : Value) (w : World) : (Instr.index 107 (.agg #[a, b, c, d]) (.int .i64 0)).run Try.prog w = .ok a w := by kernel_rfl
theorem arr4_1 (a b c d : Value) (w : World) : (Instr.index 107 (.agg #[a, b, c, d]) (.int .i64 1)).run Try.prog w = .ok b w := by kernel_rfl
theorem arr4_2 (a b c d : Value) (w : World) : (Instr.index 107 (.agg #[a, b, c, d]) (.int .i64 2)).run Try.prog w = .ok c w := by kernel_rfl
theorem arr4_3 (a b c d : Value) (w : World) : (Instr.index 107 (.agg #[a, b, c, d]) (.int .i64 3)).run Try.prog w = .ok d w := by kernel_rfl
attribute [local go_sem] arr4_0 arr4_1 arr4_2 arr4_3
theorem hostS_yes {s : Bs} (h : cutB s = true) : hostS s = s ++ [0] ∧ checkC s = 0 := by rw [hostS, checkC, h]; exact ⟨rfl, rfl⟩
theorem checkC_no {s : Bs} (h : cutB s = false) : checkC s = 1 := by rw [checkC, h]; rfl
set_option maxRecDepth 100000 in
set_option maxHeartbeats 4000000 in
theorem soa_w (s : So) (h1 : s.main.length ≤ 70000) (h2 : s.mail.length ≤ 70000) (w : World) : Calls Try.prog 42 #[s.val] w (Rets fun r w' => r = .tuple #[.string ⟨s.bytes.toArray⟩, .int .i64 s.code] ∧ Upd0 w w') := by
  obtain ⟨i0, hi, hz0, hz1, hz2⟩ := info_parts info_u8
  have hbad : Hid (s.ok = false → s.bytes = [] ∧ s.code = 1) := Lib.hid (fun h => by rw [So.bytes, So.code, h]; exact ⟨rfl, rfl⟩)
  have tok1 : True := trivial
  cases hc1 : cutB s.main with
  | false =>
    have hC1 := Lib.hid (checkC_no hc1)
    have hfin := Lib.hid (hbad.out (by rw [So.ok, hc1]; rfl))
    clear hc1 hbad
    rw [So.val]
    go_enter Try.func42, Try.ntmps42
    go_wp2_with (first
      | (go_at_call 66; have _t := tok1; refine (host_w s.main h1 _).use ?_; rintro v w1 ⟨rfl, hu1⟩; rw [hC1.out]; obtain ⟨k1, k2, k3⟩ := hu1.rules; simp only [World.size_alloc] at k1 k2 k3; have kz : w.heap.size < w1.heap.size := (by omega); clear tok1 _t)
      | (go_at_call 66; refine (host_w s.mail h2 _).use ?_; rintro v w2 ⟨rfl, hu2⟩; obtain ⟨j1, j2, j3⟩ := hu2.rules; have jz : w.heap.size < w2.heap.size := (by omega))
      | (with_reducible refine wp_serial (by kernel_rfl) (by kernel_rfl) (by (repeat (first | (with_reducible apply NoBad.then) | (with_reducible apply NoBad.inBlock) | (with_reducible exact NoBad.rets))); done) ?_)
      | fail)
    go_returns
    exact ⟨by rw [hfin.out.1, hfin.out.2]; rfl, (by (repeat (first | (with_reducible exact Upd.refl _ _) | (with_reducible assumption) | (with_reducible apply Upd.drew) | (with_reducible apply Upd.alloc) | (refine Upd0.tr ?_ (by with_reducible assumption)) | (refine Upd.setCell ?_ (fun h => absurd h (by first | exact Nat.lt_irrefl _ | (simp only []; omega))) _))); done)⟩
  | true =>
    obtain ⟨hS1, hC1⟩ := hostS_yes hc1
    have hl1 := cutB_len hc1
    have hS1h := Lib.hid hS1
    have hC1h := Lib.hid hC1
    have hc1h := Lib.hid hc1
    clear hS1 hC1 hc1
    cases hc2 : cutB s.mail with
    | false =>
      have hC2 := Lib.hid (checkC_no hc2)
      have hfin := Lib.hid (hbad.out (by rw [So.ok, hc2, hc1h.out]; rfl))
      clear hc2 hbad
      rw [So.val]
      go_enter Try.func42, Try.ntmps42
      go_wp2_with (first
        | (go_at_call 66; have _t := tok1; refine (host_w s.main h1 _).use ?_; rintro v w1 ⟨rfl, hu1⟩; rw [hC1h.out, hS1h.out]; obtain ⟨k1, k2, k3⟩ := hu1.rules; simp only [World.size_alloc] at k1 k2 k3; have kz : w.heap.size < w1.heap.size := (by omega); clear tok1 _t)
        | (go_at_call 66; refine (host_w s.mail h2 _).use ?_; rintro v w2 ⟨rfl, hu2⟩; rw [hC2.out]; obtain ⟨j1, j2, j3⟩ := hu2.rules; have jz : w.heap.size < w2.heap.size := (by omega))
        | (with_reducible refine wp_serial (by kernel_rfl) (by kernel_rfl) (by (repeat (first | (with_reducible apply NoBad.then) | (with_reducible apply NoBad.inBlock) | (with_reducible exact NoBad.rets))); done) ?_)
        | fail)
      go_returns
      exact ⟨by rw [hfin.out.1, hfin.out.2]; rfl, (by (repeat (first | (with_reducible exact Upd.refl _ _) | (with_reducible assumption) | (with_reducible apply Upd.drew) | (with_reducible apply Upd.alloc) | (refine Upd0.tr ?_ (by with_reducible assumption)) | (refine Upd.setCell ?_ (fun h => absurd h (by first | exact Nat.lt_irrefl _ | (simp only []; omega))) _))); done)⟩
    | true =>
      obtain ⟨hS2, hC2⟩ := hostS_yes hc2
      have hl2 := cutB_len hc2
      have hS2h := Lib.hid hS2
      have hC2h := Lib.hid hC2
      have hc2h := Lib.hid hc2
      clear hS2 hC2 hc2
      have hse : s.se < 0 ∨ (0 ≤ s.se ∧ 4294967295 < s.se) ∨ (0 ≤ s.se ∧ s.se ≤ 4294967295) := by omega
      rcases hse with hse | ⟨hse, hse2⟩ | ⟨hse, hse2⟩
      iterate 2
        · have hfin := Lib.hid (hbad.out (by
            rw [So.ok, hc2h.out, hc1h.out]
            first | (rw [show decide (0 ≤ s.se) = false by simp; omega]; simp; done) | (rw [show decide (s.se ≤ 4294967295) = false by simp; omega]; simp; done)))
          clear hbad
          rw [So.val]
          go_enter Try.func42, Try.ntmps42
          go_wp2_with (first
            | (go_at_call 66; have _t := tok1; refine (host_w s.main h1 _).use ?_; rintro v w1 ⟨rfl, hu1⟩; rw [hC1h.out, hS1h.out]; obtain ⟨k1, k2, k3⟩ := hu1.rules; simp only [World.size_alloc] at k1 k2 k3; have kz : w.heap.size < w1.heap.size := (by omega); clear tok1 _t)
            | (go_at_call 66; refine (host_w s.mail h2 _).use ?_; rintro v w2 ⟨rfl, hu2⟩; rw [hC2h.out, hS2h.out]; obtain ⟨j1, j2, j3⟩ := hu2.rules; have jz : w.heap.size < w2.heap.size := (by omega))
            | (with_reducible refine wp_serial (by kernel_rfl) (by kernel_rfl) (by (repeat (first | (with_reducible apply NoBad.then) | (with_reducible apply NoBad.inBlock) | (with_reducible exact NoBad.rets))); done) ?_)
            | fail)
          go_returns
          exact ⟨by rw [hfin.out.1, hfin.out.2]; rfl, (by (repeat (first | (with_reducible exact Upd.refl _ _) | (with_reducible assumption) | (with_reducible apply Upd.drew) | (with_reducible apply Upd.alloc) | (refine Upd0.tr ?_ (by with_reducible assumption)) | (refine Upd.setCell ?_ (fun h => absurd h (by first | exact Nat.lt_irrefl _ | (simp only []; omega))) _))); done)⟩
      obtain ⟨n0, hn0⟩ := Int.eq_ofNat_of_zero_le hse
      have hok := Lib.hid (show s.ok = s.nums.all numOk by
        rw [So.ok, hc2h.out, hc1h.out, show decide (0 ≤ s.se) = true by simpa using hse, show decide (s.se ≤ 4294967295) = true by simpa using hse2]; rfl)
      have hhd := Lib.hid (show s.main ++ 0 :: (s.mail ++ [0]) ++ w4 n0 = s.hd by rw [So.hd, hn0]; rfl)
      have htl0 := Lib.hid (show s.tl 0 = [] from rfl)
      have hnums : s.nums = [s.re, s.rt, s.ex, s.mi] := rfl
      have hnumsh := Lib.hid hnums
      have hgood : Hid (s.nums.all numOk = true → s.bytes = s.hd ++ s.tl 4 ∧ s.code = 0) := Lib.hid (fun h => by rw [So.bytes, So.code, hok.out, h]; exact ⟨rfl, rfl⟩)
      clear hnums
      have hlen0 : s.main.length + s.mail.length ≤ 508 := by omega
      have hv : s.val = .agg #[.string ⟨s.main.toArray⟩, .string ⟨s.mail.toArray⟩, .int .i64 n0, .int .i64 s.re, .int .i64 s.rt, .int .i64 s.ex, .int .i64 s.mi] := by rw [So.val, hn0]
      rw [hv]
      clear hv
      have hn0' : n0 ≤ 4294967295 := by omega
      have hlnh := so_len s
      clear hse hse2 hn0
      go_enter Try.func42, Try.ntmps42
      go_wp2_with (first
        | (go_at_call 66; have _t := tok1; refine (host_w s.main h1 _).use ?_; rintro v w1 ⟨rfl, hu1⟩; rw [hC1h.out, hS1h.out]; obtain ⟨k1, k2, k3⟩ := hu1.rules; simp only [World.size_alloc] at k1 k2 k3; have kz : w.heap.size < w1.heap.size := (by omega); clear tok1 _t)
        | (go_at_call 66; refine (host_w s.mail h2 _).use ?_; rintro v w2 ⟨rfl, hu2⟩; rw [hC2h.out, hS2h.out]; obtain ⟨j1, j2, j3⟩ := hu2.rules; have jz : w.heap.size < w2.heap.size := (by omega))
        | (refine wpList_toB rfl (.tmp 41) 9 74 rfl 5 Try.underlying9 Try.underlying74 Try.underlying5 (s.main ++ 0 :: (s.mail ++ [0])) rfl (by unfold maxLen; simp; omega) ?_; intro cap w3 hb3 hu3 hz3; have hl0l : (s.main ++ 0 :: (s.mail ++ [0])).length ≤ 600 := (by simp; omega); generalize hl0 : (s.main ++ 0 :: (s.mail ++ [0])) = l0 at *; have hl0h := Lib.hid hl0; clear hl0; have hb3h := Lib.hid hb3; clear hb3; obtain ⟨g1, g2, g3⟩ := hu3.rules; have gz : w.heap.size < w3.heap.size := (by omega))
        | (go_at_call 67; (with_reducible refine (long_w w.heap.size _ _ n0 _ (hb3h.out.mono (by omega)) (by omega) (by omega) (by omega)).use ?_); rintro v w4 ⟨ao4, cap4, rfl, hb4, hu4, hf4⟩; rw [hhd.out] at hb4; have hl4 := Lib.hid hb4; clear hb4 hf4; have hu5 := br_upd0 (show Upd0 w w3 from (by (repeat (first | (with_reducible exact Upd.refl _ _) | (with_reducible assumption) | (with_reducible apply Upd.drew) | (with_reducible apply Upd.alloc) | (refine Upd0.tr ?_ (by with_reducible assumption)) | (refine Upd.setCell ?_ (fun h => absurd h (by first | exact Nat.lt_irrefl _ | (simp only []; omega))) _))); done)) (hb3h.out.mono (by omega)) hu4; have m1 : ∀ o, w4.cell? ⟨w.heap.size, o, none⟩ = w3.cell? ⟨w.heap.size, o, none⟩ := fun o => hu4.cellEq (p := ⟨w.heap.size, o, none⟩) (fun e => absurd e (by simp [Value.ownBlock]; omega)) gz)
        | (with_reducible refine wp_serial (by kernel_rfl) (by kernel_rfl) (by (repeat (first | (with_reducible apply NoBad.then) | (with_reducible apply NoBad.inBlock) | (with_reducible exact NoBad.rets))); done) ?_)
        | fail)
      clear m1 g1 g2 j1 j2 k1 k2
      go_loopw [8, 55] (fun o y wr => ∃ (k : Nat) (ao : Option Addr) (n cap : Nat), k ≤ 4 ∧ y = .int .i64 k ∧ o = .slice ao n cap ∧ n ≤ 700 + 4 * k ∧ Hid (BR 5 w.heap.size wr (.slice ao n cap) (s.hd ++ s.tl k)) ∧ Hid ((s.nums.take k).all numOk = true) ∧ Upd0 w wr) (fun _ y _ => 4 - (intOf y).toNat)
      case atStart => exact ⟨0, ao4, _, cap4, by omega, rfl, rfl, by omega, Lib.hid (by rw [htl0.out, List.append_nil]; exact hl4.out), Lib.hid rfl, hu5⟩
      case round =>
        obtain ⟨k, ao, n, cp, hk4, rfl, rfl, hnl, hb, hall, hu⟩ := hrel
        have hkc : k = 4 ∨ k = 0 ∨ k = 1 ∨ k = 2 ∨ k = 3 := by omega
        rcases hkc with rfl | hkc
        · have hfin := Lib.hid (hgood.out (by have := hall.out; rwa [hnumsh.out] at this ⊢))
          go_wp2_with (first
            | (refine wpList_ofB rfl (.tmp 68) 74 9 rfl 5 Try.underlying74 Try.underlying5 Try.underlying9 rfl hb.out ?_)
            | (with_reducible refine wp_serial (by kernel_rfl) (by kernel_rfl) (by (repeat (first | (with_reducible apply NoBad.then) | (with_reducible apply NoBad.inBlock) | (with_reducible exact NoBad.rets))); done) ?_) | fail)
          go_returns
          exact ⟨by rw [hfin.out.1, hfin.out.2]; rfl, hu⟩
        · have hlen : (s.hd ++ s.tl k).length ≤ 700 + 4 * k := by
            obtain ⟨ao', cap', he⟩ := hb.out.isSlice
            injection he with _ he; omega
          have hx : ∃ x, s.nums[k]? = some x := by
            rw [hnumsh.out]; rcases hkc with rfl | rfl | rfl | rfl <;> exact ⟨_, rfl⟩
          obtain ⟨x, hx⟩ := hx
          have hx0 := hx
          rw [hnumsh.out] at hx0
          have hstep := Lib.hid (so_tl s hx)
          have hallb : Hid (numOk x = false → s.bytes = [] ∧ s.code = 1) := Lib.hid (fun h => hbad.out (by rw [hok.out]; exact so_all s hx h))
          have hallg : Hid (numOk x = true → (s.nums.take (k + 1)).all numOk = true) := Lib.hid (fun h => by rw [List.take_add_one, hx, List.all_append, hall.out]; simp [h])
          have hxr : x < 0 ∨ (0 ≤ x ∧ 2147483647 < x) ∨ (0 ≤ x ∧ x ≤ 2147483647) := by omega
          clear hx hbad hgood
          rcases hxr with hx1 | ⟨hx1, hx2⟩ | ⟨hx1, hx2⟩
          iterate 2
            · have hfin := Lib.hid (hallb.out (by unfold numOk; first | (rw [show decide (0 ≤ x) = false by simp; omega]; rfl) | (rw [show decide (x ≤ 2147483647) = false by simp; omega]; simp; done)))
              clear hallb hallg hstep
              rcases hkc with rfl | rfl | rfl | rfl
              all_goals
                obtain rfl := Option.some.inj hx0
                go_wp2_with (first | (with_reducible refine wp_serial (by kernel_rfl) (by kernel_rfl) (by (repeat (first | (with_reducible apply NoBad.then) | (with_reducible apply NoBad.inBlock) | (with_reducible exact NoBad.rets))); done) ?_) | fail)
                go_returns
                exact ⟨by rw [hfin.out.1, hfin.out.2]; rfl, hu⟩
          obtain ⟨m, rfl⟩ := Int.eq_ofNat_of_zero_le hx1
          have hg := Lib.hid (hallg.out (by unfold numOk; simp; omega))
          clear hallg hallb
          rcases hkc with rfl | rfl | rfl | rfl
          all_goals
            have hx3 := Option.some.inj hx0
            rw [hx3]
            clear hx0 hx3
            go_wp2_with (first
              | (go_at_call 67; (with_reducible refine (long_w w.heap.size _ _ m _ (hb.out.up (by (repeat (first | (with_reducible exact Upd.refl _ _) | (with_reducible assumption) | (with_reducible apply Upd.drew) | (with_reducible apply Upd.alloc) | (refine Upd0.tr ?_ (by with_reducible assumption)) | (refine Upd.setCell ?_ (fun h => absurd h (by first | exact Nat.lt_irrefl _ | (simp only []; omega))) _))); done)) (by have := hu.size; omega) (by omega) (by omega)).use ?_); rintro v w5 ⟨ao5, cap5, rfl, hb5, hu5', hf5⟩; have hl5 := Lib.hid hb5; clear hb5 hf5; have hu6 := br_upd0 hu hb.out hu5')
              | (with_reducible refine wp_serial (by kernel_rfl) (by kernel_rfl) (by (repeat (first | (with_reducible apply NoBad.then) | (with_reducible apply NoBad.inBlock) | (with_reducible exact NoBad.rets))); done) ?_) | fail)
            go_roundw
            case rel => exact ⟨_ + 1, ao5, _, cap5, by first | exact hk4' | omega, by rfl, rfl, by have := hlen; rw [List.length_append] at this; omega, Lib.hid (by have h := hl5.out; rw [List.length_append] at h; rw [hstep.out, ← List.append_assoc]; exact h), hg, hu6⟩
            case measure => simp [intOf]
end Go.Proofs.Ytdjleplefbmjbaa
