/-
  A name's labels from the last one on; under which names it is; how two are ordered.
-/
import Derived.Test.YtdjleplefbmjbaaNmB
namespace Go.Proofs.Ytdjleplefbmjbaa
open Go.RowKit
set_option linter.unusedSimpArgs false
set_option linter.unusedVariables false
theorem ownsRow_cap {w : World} {B : Nat} {e : TypeId} {s : Nat} {ao : Option Addr} {n cap : Nat} {xs : List Value} (h : w.ownsRow B e s (.slice ao n cap) n xs) : n ≤ cap ∧ cap ≤ maxLen := by
  rcases h.2 with ⟨h, rfl⟩ | ⟨g, cap', cur, hv, _, _, h1, h2, _⟩
  · cases h; exact ⟨Nat.le_refl _, by decide⟩
  · cases hv; exact ⟨h1, h2⟩
theorem trn_len (s : Bs) : (trn s).length ≤ s.length := by
  cases hb : cutB s with
  | false => unfold trn; rw [cutL_no hb]; simp
  | true =>
    obtain ⟨h1, h2⟩ := cut_lab hb
    have := lab_join h2
    unfold trn; simpa using this
set_option maxRecDepth 100000 in
theorem turned_w (s : Bs) (hm : s.length ≤ 70000) (w : World) : Calls Try.prog 50 #[.string ⟨s.toArray⟩] w (Rets fun r w' =>
    ∃ ao cap, r = .tuple #[.slice ao (trn s).length cap, .bool (cutB s)] ∧ SR w' ao (trn s) ∧ (trn s).length ≤ cap ∧ cap ≤ maxLen ∧ Upd0 w w') := by
  have hlen := Lib.hid (show (cutL (fold s)).length = (trn s).length by rw [← trn_turn, List.length_reverse])
  have hfl : (fold s).length ≤ 70000 := by rw [fold_len]; exact hm
  have hfm : (fold s).length ≤ maxLen := by unfold maxLen; omega
  have hcb := Lib.hid (cut_fold s).1
  have htl := trn_len s
  go_enter Try.func50, Try.ntmps50
  go_wp2_with (first
    | (go_at_call 24; (with_reducible refine (fold_w s hm _).use ?_); rintro v w1 ⟨rfl, hu1⟩)
    | (go_at_call 43; (with_reducible refine (cut_any (fold s) hfm _).use ?_); rintro v w2 ⟨ao, cap, rfl, hr, hb1⟩; have hu2 := Upd0.of_below hb1; rw [hcb.out]; have hrh := Lib.hid hr; clear hr)
    | (go_at_call 70; (with_reducible refine (rev_w _ ao cap (cutL (fold s)) _ hrh.out (by have := hlen.out; omega)).use ?_); rintro v w3 ⟨rfl, ho3, hu3⟩; have ho3h := Lib.hid ho3; clear ho3; have hu4 : Upd0 w w3 := Upd.trans (Upd0.tr hu1 hu2) hu3 (fun n hn hs => absurd hn (by have := (hrh.out.lt n hs).1; have := hu1.size; omega)))
    | (with_reducible refine wp_serial (by kernel_rfl) (by kernel_rfl) (by (repeat (first | (with_reducible apply NoBad.then) | (with_reducible apply NoBad.inBlock) | (with_reducible exact NoBad.rets))); done) ?_) | fail)
  all_goals go_returns
  refine ⟨ao, cap, by rw [hlen.out]; rfl, ?_, ?_, ?_, hu4⟩
  · rw [← trn_turn]; exact own_sr ho3h.out (by simp)
  · rw [← hlen.out]; exact (ownsRow_cap ho3h.out).1
  · exact (ownsRow_cap ho3h.out).2
theorem SR.take {w : World} {ao : Option Addr} {L : List Bs} (h : SR w ao L) (k : Nat) : SR w ao (L.take k) := by
  rcases h with rfl | ⟨g, o, h1, h2, h3⟩
  · exact .inl (by simp)
  · refine .inr ⟨g, o, h1, h2, fun i x hx => h3 i x ?_⟩
    rw [List.getElem?_take] at hx
    split at hx
    · exact hx
    · cases hx
set_option maxRecDepth 100000 in
theorem under_w (n t : Bs) (hn : n.length ≤ 70000) (ht : t.length ≤ 70000) (w : World) : Calls Try.prog 22 #[.string ⟨n.toArray⟩, .string ⟨t.toArray⟩] w (Rets fun r w' => r = .bool (undB n t) ∧ Upd0 w w') := by
  have tok1 : True := trivial
  have l1 := trn_len n
  have l2 := trn_len t
  cases c1 : cutB n <;> cases c2 : cutB t
  rotate_left 3
  · rcases Nat.lt_or_ge (trn n).length (trn t).length with hlt | hge
    · have hf := Lib.hid (show undB n t = false by unfold undB; rw [decide_eq_false (by omega)]; simp)
      have c1h := Lib.hid c1
      have c2h := Lib.hid c2
      clear c1 c2
      go_enter Try.func22, Try.ntmps22
      go_wp2_with (first
        | (go_at_call 50; have _t := tok1; (with_reducible refine (turned_w n hn _).use ?_); rintro v w1 ⟨ao, ca, rfl, hs1, hc1, hc2, hu1⟩; rw [c1h.out]; have hs1h := Lib.hid hs1; clear hs1; clear tok1 _t)
        | (go_at_call 50; (with_reducible refine (turned_w t ht _).use ?_); rintro v w2 ⟨bo, cb, rfl, hs2, hd1, hd2, hu2⟩; rw [c2h.out]; have hs2h := Lib.hid hs2; clear hs2)
        | (with_reducible refine wp_serial (by kernel_rfl) (by kernel_rfl) (by (repeat (first | (with_reducible apply NoBad.then) | (with_reducible apply NoBad.inBlock) | (with_reducible exact NoBad.rets))); done) ?_) | fail)
      all_goals go_returns
      all_goals exact ⟨by rw [hf.out]; rfl, (by (repeat (first | (with_reducible exact Upd.refl _ _) | (with_reducible assumption) | (with_reducible apply Upd.drew) | (with_reducible apply Upd.alloc) | (refine Upd0.tr ?_ (by with_reducible assumption)) | (refine Upd.setCell ?_ (fun h => absurd h (by first | exact Nat.lt_irrefl _ | (simp only []; omega))) _))); done)⟩
    · have hf := Lib.hid (show undB n t = ((trn n).take (trn t).length == trn t) by unfold undB; rw [c1, c2, decide_eq_true (by omega)]; simp)
      have htk := Lib.hid (show ((trn n).take (trn t).length).length = (trn t).length by simp; omega)
      have c1h := Lib.hid c1
      have c2h := Lib.hid c2
      clear c1 c2
      go_enter Try.func22, Try.ntmps22
      go_wp2_with (first
        | (go_at_call 50; have _t := tok1; (with_reducible refine (turned_w n hn _).use ?_); rintro v w1 ⟨ao, ca, rfl, hs1, hc1, hc2, hu1⟩; rw [c1h.out]; have hs1h := Lib.hid hs1; clear hs1; clear tok1 _t; unfold maxLen at hc2)
        | (go_at_call 50; (with_reducible refine (turned_w t ht _).use ?_); rintro v w2 ⟨bo, cb, rfl, hs2, hd1, hd2, hu2⟩; rw [c2h.out]; have hs2h := Lib.hid hs2; clear hs2; have hle3 : (trn t).length ≤ ca := (by omega); unfold maxLen at hd2)
        | (go_at_call 53; have hq := seq_w ao bo ca cb ((trn n).take (trn t).length) (trn t) w2 (SR.take (hs1h.out.up hu2) _) hs2h.out (by simp; omega) (by omega); rw [htk.out] at hq; refine hq.use ?_; clear hq; rintro v w3 ⟨rfl, hu3⟩)
        | (with_reducible refine wp_serial (by kernel_rfl) (by kernel_rfl) (by (repeat (first | (with_reducible apply NoBad.then) | (with_reducible apply NoBad.inBlock) | (with_reducible exact NoBad.rets))); done) ?_) | fail)
      all_goals go_returns
      all_goals exact ⟨by rw [hf.out]; rfl, (by (repeat (first | (with_reducible exact Upd.refl _ _) | (with_reducible assumption) | (with_reducible apply Upd.drew) | (with_reducible apply Upd.alloc) | (refine Upd0.tr ?_ (by with_reducible assumption)) | (refine Upd.setCell ?_ (fun h => absurd h (by first | exact Nat.lt_irrefl _ | (simp only []; omega))) _))); done)⟩
  all_goals
    have hf := Lib.hid (show undB n t = false by unfold undB; rw [c1, c2]; simp)
    have c1h := Lib.hid c1
    have c2h := Lib.hid c2
    clear c1 c2
    go_enter Try.func22, Try.ntmps22
    go_wp2_with (first
      | (go_at_call 50; have _t := tok1; (with_reducible refine (turned_w n hn _).use ?_); rintro v w1 ⟨ao, ca, rfl, hs1, hc1, hc2, hu1⟩; rw [c1h.out]; have hs1h := Lib.hid hs1; clear hs1; clear tok1 _t)
      | (go_at_call 50; (with_reducible refine (turned_w t ht _).use ?_); rintro v w2 ⟨bo, cb, rfl, hs2, hd1, hd2, hu2⟩; rw [c2h.out]; have hs2h := Lib.hid hs2; clear hs2)
      | (with_reducible refine wp_serial (by kernel_rfl) (by kernel_rfl) (by (repeat (first | (with_reducible apply NoBad.then) | (with_reducible apply NoBad.inBlock) | (with_reducible exact NoBad.rets))); done) ?_) | fail)
    all_goals go_returns
    all_goals exact ⟨by rw [hf.out]; rfl, (by (repeat (first | (with_reducible exact Upd.refl _ _) | (with_reducible assumption) | (with_reducible apply Upd.drew) | (with_reducible apply Upd.alloc) | (refine Upd0.tr ?_ (by with_reducible assumption)) | (refine Upd.setCell ?_ (fun h => absurd h (by first | exact Nat.lt_irrefl _ | (simp only []; omega))) _))); done)⟩
set_option maxRecDepth 100000 in
theorem compare_w (a b : Bs) (ha : a.length ≤ 70000) (hb : b.length ≤ 70000) (w : World) : Calls Try.prog 21 #[.string ⟨a.toArray⟩, .string ⟨b.toArray⟩] w (Rets fun r w' => r = .int .i64 (cmpN a b) ∧ Upd0 w w') := by
  have tok1 : True := trivial
  have l1 := trn_len a
  have l2 := trn_len b
  cases c1 : cutB a <;> cases c2 : cutB b
  all_goals
    have hf := Lib.hid (show cmpN a b = _ by unfold cmpN; rw [c1, c2])
    have c1h := Lib.hid c1
    have c2h := Lib.hid c2
    clear c1 c2
    go_enter Try.func21, Try.ntmps21
    go_wp2_with (first
      | (go_at_call 50; have _t := tok1; (with_reducible refine (turned_w a ha _).use ?_); rintro v w1 ⟨ao, ca, rfl, hs1, hc1, hc2, hu1⟩; rw [c1h.out]; have hs1h := Lib.hid hs1; clear hs1; clear tok1 _t)
      | (go_at_call 50; (with_reducible refine (turned_w b hb _).use ?_); rintro v w2 ⟨bo, cb, rfl, hs2, hd1, hd2, hu2⟩; rw [c2h.out]; have hs2h := Lib.hid hs2; clear hs2)
      | (go_at_call 51; (with_reducible refine (cmp_name a b _).use ?_); rintro v w3 ⟨rfl, hu3⟩)
      | (go_at_call 52; (with_reducible refine (scmp_w ao bo ca cb (trn a) (trn b) w2 (hs1h.out.up hu2) hs2h.out (by omega) (by omega)).use ?_); rintro v w3 ⟨rfl, hu3⟩)
      | (with_reducible refine wp_serial (by kernel_rfl) (by kernel_rfl) (by (repeat (first | (with_reducible apply NoBad.then) | (with_reducible apply NoBad.inBlock) | (with_reducible exact NoBad.rets))); done) ?_) | fail)
    all_goals go_returns
    all_goals exact ⟨by rw [hf.out]; rfl, (by (repeat (first | (with_reducible exact Upd.refl _ _) | (with_reducible assumption) | (with_reducible apply Upd.drew) | (with_reducible apply Upd.alloc) | (refine Upd0.tr ?_ (by with_reducible assumption)) | (refine Upd.setCell ?_ (fun h => absurd h (by first | exact Nat.lt_irrefl _ | (simp only []; omega))) _))); done)⟩
end Go.Proofs.Ytdjleplefbmjbaa
