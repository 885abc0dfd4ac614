/-
  A name printed: the program's Print.
-/
import Derived.Test.YtdjleplefbmjbaaBlv
import Derived.Test.YtdjleplefbmjbaaNmD
namespace Go.Proofs.Ytdjleplefbmjbaa
open Go.RowKit
set_option linter.unusedSimpArgs false
set_option linter.unusedVariables false
theorem txt_snoc {x : Bs} {m : Nat} {c : UInt8} (h : x[m]? = some c) : txt (x.take (m + 1)) = txt (x.take m) ++ esc c := by
  have hm := (List.getElem?_eq_some_iff.1 h).1
  rw [List.take_succ_eq_append_getElem hm, txt_app, (List.getElem?_eq_some_iff.1 h).2]
  simp [txt]
theorem lbls_snoc {L : List Bs} {k : Nat} {x : Bs} (h : L[k]? = some x) : lbls (L.take (k + 1)) = lbls (L.take k) ++ txt x ++ [46] := by
  have hk := (List.getElem?_eq_some_iff.1 h).1
  rw [List.take_succ_eq_append_getElem hk, lbls_app, (List.getElem?_eq_some_iff.1 h).2]
  simp [lbls]
theorem lbls_pre (L : List Bs) (k : Nat) : (lbls (L.take k)).length ≤ (lbls L).length := by
  conv => rhs; rw [← List.take_append_drop k L, lbls_app]
  simp
theorem bvWriteL_w (B b : Nat) (v : Value) (l news : Bs) (g n : Nat) (cells : Array Value) (w : World) (h : BldV B b v l w) (hc : cells = (byt news).toArray) (hn : news.length = n) (hg : w.heap[g]? = some (.cells cells U8 (0, 0))) (hgb : g ≠ b) (hlen : l.length ≤ 1000000) (hln : n ≤ 1000) (hBw : B ≤ w.heap.size) :
    Calls Try.prog 44 #[.pointer (some ⟨b, 0, none⟩), .slice (some ⟨g, 0, none⟩) n n] w (Rets fun r w' => r = .tuple #[.int .i64 n, .nilIface] ∧ ∃ v', BldV B b v' (l ++ news) w' ∧ Upd (fun k => k = b ∨ v.ownBlock = some k) w w' ∧ Fresh w v v') := by
  subst hn
  subst hc
  exact bvWrite_w B b v l news g w h hg hgb hlen hln hBw
theorem pr_step {w1 wr W w' : World} {v' v'' : Value} {l x : Bs} {z n cap : Nat} (hu3 : Upd0 w1 wr) (hz3 : z < wr.heap.size) (hBz : w1.heap.size < z) (hbv3 : BldV w1.heap.size w1.heap.size v' l wr) (hbr3 : BR U8 z wr (.slice (some ⟨z, 0, none⟩) n cap) x) (hne3 : v'.ownBlock ≠ some z)
    (hW : Upd0 wr W) (hU : Upd (fun k => k = w1.heap.size ∨ v'.ownBlock = some k) W w') (hF : Fresh W v' v'') : Upd0 w1 w' ∧ z < w'.heap.size ∧ BR U8 z w' (.slice (some ⟨z, 0, none⟩) n cap) x ∧ v''.ownBlock ≠ some z := by
  have s1 := hW.size
  have s2 := hU.size
  refine ⟨Upd.trans (Upd0.tr hu3 hW) hU (fun k hk hs => ?_), by omega, (hbr3.up hW).upd hU (fun g hg hs => ?_), fun e => ?_⟩
  · rcases hs with h | h
    · omega
    · have := (hbv3.2.2.1.lt k h).1; omega
  · simp only [Value.ownBlock, Option.some.injEq] at hg
    have hgz : g = z := by first | exact hg.symm | (simpa using hg.symm) | omega
    subst hgz
    rcases hs with h | h
    · omega
    · exact hne3 h
  · rcases hF z e with h | h
    · exact hne3 h
    · omega
theorem pr_old {B : Nat} {v : Value} {l : Bs} {w : World} (h : BldV B B v l w) {n : Nat} (hn : n < B) (hs : n = B ∨ v.ownBlock = some n) : False := by
  rcases hs with h' | h'
  · omega
  · have := (h.2.2.1.lt n h').1; omega
theorem esc_dot : (byt (esc 46)).toArray = #[.int .u8 92, .int .u8 46] := rfl
theorem esc_bsl : (byt (esc 92)).toArray = #[.int .u8 92, .int .u8 92] := rfl
theorem dig_nat {n : Nat} (h : n ≤ 9) : (dig n).toNat = 48 + n := by rw [dig, UInt8.toNat_ofNat']; omega
theorem esc_num {c : UInt8} (hA : ¬ (c = 46 ∨ c = 92)) (hB : c.toNat < 33 ∨ 126 < c.toNat) : (esc c).length = 4 ∧ (byt (esc c)).toArray = #[.int .u8 92, .int .u8 (48 + (c.toNat : Int) / 100), .int .u8 (48 + (c.toNat : Int) / 10 % 10), .int .u8 (48 + (c.toNat : Int) % 10)] := by
  have hc := c.toNat_lt
  rw [esc, if_neg hA, if_pos hB]
  refine ⟨rfl, ?_⟩
  simp only [byt, List.map_cons, List.map_nil]
  rw [dig_nat (by omega), dig_nat (by omega), dig_nat (by omega)]
  simp
theorem esc_one {c : UInt8} (hA : ¬ (c = 46 ∨ c = 92)) (hB : ¬ (c.toNat < 33 ∨ 126 < c.toNat)) : esc c = [c] := by rw [esc, if_neg hA, if_neg hB]
set_option maxRecDepth 100000 in
set_option maxHeartbeats 1000000 in
theorem print_w (s : Bs) (hm : s.length ≤ 70000) (w : World) : Calls Try.prog 17 #[.string ⟨s.toArray⟩] w (Rets fun r w' => r = .tuple #[.string ⟨(prnS s).toArray⟩, .int .i64 (prnC s)] ∧ Upd0 w w') := by
  have hmm : s.length ≤ maxLen := by unfold maxLen; omega
  cases hb : cutB s with
  | false =>
    have hf := Lib.hid (show prnS s = [] ∧ prnC s = 1 by rw [prnS, prnC, hb]; exact ⟨rfl, rfl⟩)
    have hbh := Lib.hid hb
    clear hb
    go_enter Try.func17, Try.ntmps17
    go_wp2_with (first
      | (go_at_call 43; (with_reducible refine (cut_any s hmm _).use ?_); rintro v w1 ⟨ao, cap, rfl, hr, hb1⟩; have hu1 := Upd0.of_below hb1; rw [hbh.out]; clear hr)
      | (with_reducible refine wp_serial (by kernel_rfl) (by kernel_rfl) (by (repeat (first | (with_reducible apply NoBad.then) | (with_reducible apply NoBad.inBlock) | (with_reducible exact NoBad.rets))); done) ?_) | fail)
    all_goals go_returns
    all_goals exact ⟨by rw [hf.out.1, hf.out.2]; rfl, (by (repeat (first | (with_reducible exact Upd.refl _ _) | (with_reducible assumption) | (with_reducible apply Upd.drew) | (with_reducible apply Upd.alloc) | (refine Upd0.tr ?_ (by with_reducible assumption)) | (refine Upd.setCell ?_ (fun h => absurd h (by first | exact Nat.lt_irrefl _ | (simp only []; omega))) _))); done)⟩
  | true =>
    have hbh := Lib.hid hb
    obtain ⟨q1, q2⟩ := cut_lab hb
    obtain ⟨q3, q4⟩ := lab_jn s _ q2
    obtain ⟨L, hL⟩ : ∃ L, cutL s = L := ⟨_, rfl⟩
    rw [hL] at q2 q3 q4
    have hlb := lbls_len2 L
    rw [q3] at hlb
    have hLl := lbls_len L q4
    rw [q3] at hLl
    have hx63 : Hid (∀ (k : Nat) x, L[k]? = some x → x.length ≤ 63) := Lib.hid (fun k x hx => (lblOk_iff.1 ((List.all_eq_true.1 q4) x (List.mem_of_getElem? hx))).2)
    have hf := Lib.hid (show prnS s = prnL L ∧ prnC s = 0 by rw [prnS, prnC, hb, hL]; exact ⟨rfl, rfl⟩)
    have hLh := Lib.hid hL
    clear hb hL q2 q3 q4
    go_enter Try.func17, Try.ntmps17
    go_wp2_with (first
      | (go_at_call 43; (with_reducible refine (cut_any s hmm _).use ?_); rintro v w1 ⟨ao, cap, rfl, hr, hb1⟩; have hu1 := Upd0.of_below hb1; rw [hbh.out]; rw [hLh.out] at hr ⊢; have hrh := Lib.hid hr; clear hr)
      | (with_reducible refine wp_serial (by kernel_rfl) (by kernel_rfl) (by (repeat (first | (with_reducible apply NoBad.then) | (with_reducible apply NoBad.inBlock) | (with_reducible exact NoBad.rets))); done) ?_) | fail)
    have hsr0 : SR w1 ao L := own_sr hrh.out rfl
    have hsr := Lib.hid hsr0
    clear hsr0
    go_loopw [20] (fun i wr => ∃ (k : Nat) (v : Value), k ≤ L.length ∧ i = .int .i64 k ∧ Upd0 w1 wr ∧ Hid (BldV w1.heap.size w1.heap.size v (lbls (L.take k)) wr)) (fun i _ => L.length - (intOf i).toNat)
    case atStart => exact ⟨0, _, Nat.zero_le _, rfl, (by (repeat (first | (with_reducible exact Upd.refl _ _) | (with_reducible assumption) | (with_reducible apply Upd.drew) | (with_reducible apply Upd.alloc) | (refine Upd0.tr ?_ (by with_reducible assumption)) | (refine Upd.setCell ?_ (fun h => absurd h (by first | exact Nat.lt_irrefl _ | (simp only []; omega))) _))); done), Lib.hid (bldV_new w1)⟩
    case round =>
      obtain ⟨k, v, hk, rfl, hu, hbv⟩ := hrel
      have hsz := hu.size
      by_cases hlt : k < L.length
      · obtain ⟨g, o, rfl, hg, hcs⟩ := (hsr.out.up hu).some hlt
        obtain ⟨x, hx⟩ : ∃ x, L[k]? = some x := ⟨L[k], List.getElem?_eq_getElem hlt⟩
        have hc := hcs k x hx
        clear hcs
        have hxl := hx63.out k x hx
        have hpre := lbls_pre L k
        have hst := Lib.hid (lbls_snoc hx)
        have hxt := (txt_len x).2
        clear hx
        have hBb : w1.heap.size < wr.heap.size := blk_lt (hbv.out.2.1.choose_spec.2)
        go_wp2_with (first
          | (refine wpList_toB rfl (.tmp 24) 9 74 rfl 5 Try.underlying9 Try.underlying74 Try.underlying5 x rfl (by unfold maxLen; omega) ?_; intro cap2 w2 hb2 hu2 hz2; have hb2h := Lib.hid hb2; clear hb2)
          | (with_reducible refine wp_serial (by kernel_rfl) (by kernel_rfl) (by (repeat (first | (with_reducible apply NoBad.then) | (with_reducible apply NoBad.inBlock) | (with_reducible exact NoBad.rets))); done) ?_) | fail)
        generalize hzz : wr.heap.size = z at *
        go_loopw [27] (fun i wq => ∃ (m : Nat) (v' : Value), m ≤ x.length ∧ i = .int .i64 m ∧ Upd0 w1 wq ∧ z < wq.heap.size ∧ Hid (BldV w1.heap.size w1.heap.size v' (lbls (L.take k) ++ txt (x.take m)) wq) ∧ Hid (BR U8 z wq (.slice (some ⟨z, 0, none⟩) x.length cap2) x) ∧ Hid (v'.ownBlock ≠ some z)) (fun i _ => x.length - (intOf i).toNat)
        case atStart => exact ⟨0, v, Nat.zero_le _, rfl, (by (repeat (first | (with_reducible exact Upd.refl _ _) | (with_reducible assumption) | (with_reducible apply Upd.drew) | (with_reducible apply Upd.alloc) | (refine Upd0.tr ?_ (by with_reducible assumption)) | (refine Upd.setCell ?_ (fun h => absurd h (by first | exact Nat.lt_irrefl _ | (simp only []; omega))) _))); done), by omega, Lib.hid (by simpa [txt] using hbv.out.upd hu2 (fun h => h) (fun _ _ h => h)), hb2h, Lib.hid (fun e => by have := (hbv.out.2.2.1.lt _ e).2; omega)⟩
        case round =>
          obtain ⟨m, v', hmx, rfl, hu3, hz3, hbv3, hbr3, hne3⟩ := hrel
          have hs3 := hu3.size
          by_cases hlm : m < x.length
          · obtain ⟨c, hcx⟩ : ∃ c, x[m]? = some c := ⟨x[m], List.getElem?_eq_getElem hlm⟩
            have hcell := hbr3.out.cell (i := m) hlm
            have hfz := hbr3.out.frz (i := m) hlm
            rw [show x[m] = c from (List.getElem?_eq_some_iff.1 hcx).2] at hcell
            have hst2 := Lib.hid (txt_snoc hcx)
            have htl : (txt (x.take m)).length ≤ 252 := by have := (txt_len (x.take m)).2; simp only [List.length_take] at this; omega
            have hcb : c.toNat ≤ 255 := by have := c.toNat_lt; omega
            clear hcx
            by_cases hA : c = 46 ∨ c = 92
            · rcases hA with rfl | rfl
              all_goals
                go_wp2_with (first
                  | (go_at_call 44; refine (bvWriteL_w _ _ v' _ (esc _) wr.heap.size 2 _ _ (hbv3.out.upd (S := fun _ => False) (w' := wr.alloc _) (by (repeat (first | (with_reducible exact Upd.refl _ _) | (with_reducible assumption) | (with_reducible apply Upd.drew) | (with_reducible apply Upd.alloc) | (refine Upd0.tr ?_ (by with_reducible assumption)) | (refine Upd.setCell ?_ (fun h => absurd h (by first | exact Nat.lt_irrefl _ | (simp only []; omega))) _))); done) (fun h => h) (fun _ _ h => h)) (by first | exact esc_dot.symm | exact esc_bsl.symm) rfl (alloc_last _ _ _ (by simp)) (by omega) (by simp only [List.length_append]; omega) (by omega) (by simp only [World.size_alloc]; omega)).use ?_; rintro r w5 ⟨rfl, v5, hb5, hu5, hf5⟩; obtain ⟨p1, p2, p3, p4⟩ := pr_step hu3 hz3 hBb hbv3.out hbr3.out hne3.out (by (repeat (first | (with_reducible exact Upd.refl _ _) | (with_reducible assumption) | (with_reducible apply Upd.drew) | (with_reducible apply Upd.alloc) | (refine Upd0.tr ?_ (by with_reducible assumption)) | (refine Upd.setCell ?_ (fun h => absurd h (by first | exact Nat.lt_irrefl _ | (simp only []; omega))) _))); done) hu5 hf5; have hb5h := Lib.hid hb5; have p3h := Lib.hid p3; have p4h := Lib.hid p4; clear hb5 p3 p4 hu5 hf5)
                  | (with_reducible refine wp_serial (by kernel_rfl) (by kernel_rfl) (by (repeat (first | (with_reducible apply NoBad.then) | (with_reducible apply NoBad.inBlock) | (with_reducible exact NoBad.rets))); done) ?_) | fail)
                go_roundw
                case rel => exact ⟨m + 1, v5, by omega, by go_num, p1, p2, Lib.hid (by rw [hst2.out, ← List.append_assoc]; exact hb5h.out), p3h, p4h⟩
                case measure => simp [intOf]; omega
            · have hn1 : ((c.toNat : Int) == 46) = false := by
                rw [beq_eq_false_iff_ne]; intro e; exact hA (.inl (UInt8.toNat_inj.1 (by show c.toNat = 46; omega)))
              have hn2 : ((c.toNat : Int) == 92) = false := by
                rw [beq_eq_false_iff_ne]; intro e; exact hA (.inr (UInt8.toNat_inj.1 (by show c.toNat = 92; omega)))
              by_cases hB : c.toNat < 33 ∨ 126 < c.toNat
              · have hn4 := Lib.hid (esc_num hA hB)
                clear hA
                have hB' : c.toNat < 33 ∨ (33 ≤ c.toNat ∧ 126 < c.toNat) := by omega
                clear hB
                rcases hB' with hB | ⟨hB1, hB⟩
                all_goals
                  go_wp2_with (first
                    | (go_at_call 44; refine (bvWriteL_w _ _ v' _ (esc c) wr.heap.size 4 _ _ (hbv3.out.upd (S := fun _ => False) (w' := wr.alloc _) (by (repeat (first | (with_reducible exact Upd.refl _ _) | (with_reducible assumption) | (with_reducible apply Upd.drew) | (with_reducible apply Upd.alloc) | (refine Upd0.tr ?_ (by with_reducible assumption)) | (refine Upd.setCell ?_ (fun h => absurd h (by first | exact Nat.lt_irrefl _ | (simp only []; omega))) _))); done) (fun h => h) (fun _ _ h => h)) hn4.out.2.symm hn4.out.1 (alloc_last _ _ _ (by simp)) (by omega) (by simp only [List.length_append]; omega) (by omega) (by simp only [World.size_alloc]; omega)).use ?_; rintro r w5 ⟨rfl, v5, hb5, hu5, hf5⟩; obtain ⟨p1, p2, p3, p4⟩ := pr_step hu3 hz3 hBb hbv3.out hbr3.out hne3.out (by (repeat (first | (with_reducible exact Upd.refl _ _) | (with_reducible assumption) | (with_reducible apply Upd.drew) | (with_reducible apply Upd.alloc) | (refine Upd0.tr ?_ (by with_reducible assumption)) | (refine Upd.setCell ?_ (fun h => absurd h (by first | exact Nat.lt_irrefl _ | (simp only []; omega))) _))); done) hu5 hf5; have hb5h := Lib.hid hb5; have p3h := Lib.hid p3; have p4h := Lib.hid p4; clear hb5 p3 p4 hu5 hf5)
                    | (with_reducible refine wp_serial (by kernel_rfl) (by kernel_rfl) (by (repeat (first | (with_reducible apply NoBad.then) | (with_reducible apply NoBad.inBlock) | (with_reducible exact NoBad.rets))); done) ?_) | fail)
                  go_roundw
                  case rel => exact ⟨m + 1, v5, by omega, by go_num, p1, p2, Lib.hid (by rw [hst2.out, ← List.append_assoc]; exact hb5h.out), p3h, p4h⟩
                  case measure => simp [intOf]; omega
              · have hn4 := Lib.hid (esc_one hA hB)
                have hB1 : 33 ≤ c.toNat := by omega
                have hB2 : c.toNat ≤ 126 := by omega
                clear hA hB
                go_wp2_with (first
                  | (go_at_call 45; refine (bvByte_w _ _ v' _ c.toNat (by omega) _ hbv3.out (by simp only [List.length_append]; omega) (by omega)).use ?_; rintro r w5 ⟨rfl, v5, hb5, hu5, hf5⟩; obtain ⟨p1, p2, p3, p4⟩ := pr_step hu3 hz3 hBb hbv3.out hbr3.out hne3.out (Upd.refl _ _) hu5 hf5; have hb5h := Lib.hid hb5; have p3h := Lib.hid p3; have p4h := Lib.hid p4; clear hb5 p3 p4 hu5 hf5)
                  | (with_reducible refine wp_serial (by kernel_rfl) (by kernel_rfl) (by (repeat (first | (with_reducible apply NoBad.then) | (with_reducible apply NoBad.inBlock) | (with_reducible exact NoBad.rets))); done) ?_) | fail)
                go_roundw
                case rel => exact ⟨m + 1, v5, by omega, by go_num, p1, p2, Lib.hid (by rw [hst2.out, hn4.out, ← List.append_assoc]; have := hb5h.out; rw [UInt8.ofNat_toNat] at this; exact this), p3h, p4h⟩
                case measure => simp [intOf]; omega
          · have htk : x.take m = x := List.take_of_length_le (by omega)
            rw [htk] at hbv3
            go_wp2_with (first
              | (go_at_call 45; refine (bvByte_w _ _ v' _ 46 (by omega) _ hbv3.out (by simp only [List.length_append]; omega) (by omega)).use ?_; rintro r w5 ⟨rfl, v5, hb5, hu5, hf5⟩; obtain ⟨p1, p2, p3, p4⟩ := pr_step hu3 hz3 hBb hbv3.out hbr3.out hne3.out (Upd.refl _ _) hu5 hf5; have hb5h := Lib.hid hb5; clear hb5 p3 p4 hu5 hf5)
              | (with_reducible refine wp_serial (by kernel_rfl) (by kernel_rfl) (by (repeat (first | (with_reducible apply NoBad.then) | (with_reducible apply NoBad.inBlock) | (with_reducible exact NoBad.rets))); done) ?_) | fail)
            go_roundw
            case rel => exact ⟨k + 1, v5, by omega, by go_num, p1, Lib.hid (by rw [hst.out]; exact hb5h.out)⟩
            case measure => simp [intOf]; omega
      · have htk : L.take k = L := List.take_of_length_le (by omega)
        rw [htk] at hbv
        by_cases h0 : L.length = 0
        · obtain rfl : L = [] := List.eq_nil_of_length_eq_zero h0
          have hfe := Lib.hid (show prnL [] = [46] from rfl)
          go_wp2_with (first
            | (go_at_call 45; refine (bvByte_w _ _ v _ 46 (by omega) _ hbv.out (by simp [lbls]) (by omega)).use ?_; rintro r w5 ⟨rfl, v5, hb5, hu5, hf5⟩; have p1 : Upd0 w1 w5 := Upd.trans hu hu5 (fun n hn hs => pr_old hbv.out hn hs); have hb5h := Lib.hid hb5; clear hb5 hf5; have hs5 := p1.size)
            | (go_at_call 46; refine (bldString_w _ _ _ _ hb5h.out.bld hs5).use ?_; rintro r w6 ⟨rfl, hb6⟩)
            | (with_reducible refine wp_serial (by kernel_rfl) (by kernel_rfl) (by (repeat (first | (with_reducible apply NoBad.then) | (with_reducible apply NoBad.inBlock) | (with_reducible exact NoBad.rets))); done) ?_) | fail)
          all_goals go_returns
          all_goals exact ⟨by rw [hf.out.1, hf.out.2, hfe.out]; rfl, Upd0.tr hu1 (Upd0.of_below (Below.trans (p1.below (Nat.le_refl _) (fun _ h => h.elim)) hb6))⟩
        · have hne : L ≠ [] := fun e => h0 (by rw [e]; rfl)
          have hfe := Lib.hid (show prnL L = lbls L by rw [prnL, if_neg hne])
          have h0' : ((L.length : Int) == 0) = false := by rw [beq_eq_false_iff_ne]; omega
          clear h0 hne
          go_wp2_with (first
            | (go_at_call 46; refine (bldString_w _ _ _ _ hbv.out.bld hsz).use ?_; rintro r w6 ⟨rfl, hb6⟩)
            | (with_reducible refine wp_serial (by kernel_rfl) (by kernel_rfl) (by (repeat (first | (with_reducible apply NoBad.then) | (with_reducible apply NoBad.inBlock) | (with_reducible exact NoBad.rets))); done) ?_) | fail)
          all_goals go_returns
          all_goals exact ⟨by rw [hf.out.1, hf.out.2, hfe.out]; rfl, Upd0.tr hu1 (Upd0.of_below (Below.trans (hu.below (Nat.le_refl _) (fun _ h => h.elim)) hb6))⟩
end Go.Proofs.Ytdjleplefbmjbaa
