/-
  A text parsed: the document's Parse.
-/
import Derived.Test.YtdjleplefbmjbaaPaB
import Derived.Test.YtdjleplefbmjbaaSer5
namespace Go.Proofs.Ytdjleplefbmjbaa
open Go.RowKit
set_option linter.unusedSimpArgs false
set_option linter.unusedVariables false
theorem parO_ref {s : Bs} (hs : s ≠ [46]) (h : s.length ≤ 2000) : parO s = if isTxt (parR s []) s then some (jn (parR s [])) else none := by
  rw [← par_same, parO', if_neg hs, if_neg (by omega)]
theorem parO_far {s : Bs} (hs : s ≠ [46]) (h : 2000 < s.length) : parO s = none := by
  rw [← par_same, parO', if_neg hs, if_pos h]
theorem one_of {s : Bs} {k : Nat} {x : UInt8} (h : s[k]? = some x) : (s.take (k + 1)).drop k = [x] := by
  have hk := (List.getElem?_eq_some_iff.1 h).1
  rw [List.take_succ_eq_append_getElem hk, List.drop_append_of_le_length (by simp; omega), List.drop_of_length_le (by simp; omega)]
  simpa using (List.getElem?_eq_some_iff.1 h).2
theorem parR_at {s lbl : Bs} {k : Nat} {x : UInt8} {t : Bs} (h : s.drop k = x :: t) : parR (s.drop k) lbl = match (rx (x :: t)).1 with | none => lbl :: parR ((x :: t).drop (rx (x :: t)).2) [] | some c => parR ((x :: t).drop (rx (x :: t)).2) (lbl ++ [c]) := by
  rw [h]; exact parR_step lbl (by simp)
/-- what a step of the document's reading does to its state -/
theorem parR_lit {s lbl : Bs} {k n : Nat} {x c : UInt8} {t : Bs} (h : s.drop k = x :: t) (hr : rx (x :: t) = (some c, n)) : parR (s.drop k) lbl = parR (s.drop (k + n)) (lbl ++ [c]) := by
  rw [parR_at h, hr, ← h, List.drop_drop]
theorem parR_dot {s lbl : Bs} {k : Nat} {t : Bs} (h : s.drop k = 46 :: t) : parR (s.drop k) lbl = lbl :: parR (s.drop (k + 1)) [] := by
  have hr : rx (46 :: t) = (none, 1) := rfl
  rw [parR_at h, hr, ← h, List.drop_drop]
theorem numR_cell (y a b : UInt8) : #[Value.int .u8 ((100 * ((y.toNat : Int) - 48) + 10 * ((a.toNat : Int) - 48) + (b.toNat : Int) - 48) % 256)] = (byt [numR y a b]).toArray := by
  simp only [byt, List.map_cons, List.map_nil, numR, UInt8.toNat_ofNat']
  congr 2; congr 1; omega
set_option maxRecDepth 100000 in
set_option maxHeartbeats 2000000 in
theorem rparse_w (s : Bs) (hm : s.length ≤ 70000) (w : World) : Calls Try.prog 20 #[.string ⟨s.toArray⟩] w (Rets fun r w' => r = .tuple #[.string ⟨(parS s).toArray⟩, .int .i64 (parC s)] ∧ Upd0 w w') := by
  by_cases hs : s = [46]
  · subst hs
    have hf := Lib.hid (show parS [46] = [] ∧ parC [46] = 0 from ⟨rfl, rfl⟩)
    go_enter Try.func20, Try.ntmps20
    go_wp2_with (first | (with_reducible refine wp_serial (by kernel_rfl) (by kernel_rfl) (by (repeat (first | (with_reducible apply NoBad.then) | (with_reducible apply NoBad.inBlock) | (with_reducible exact NoBad.rets))); done) ?_) | fail)
    all_goals go_returns
    all_goals exact ⟨by rw [hf.out.1, hf.out.2]; rfl, (by (repeat (first | (with_reducible exact Upd.refl _ _) | (with_reducible assumption) | (with_reducible apply Upd.drew) | (with_reducible apply Upd.alloc) | (refine Upd0.tr ?_ (by with_reducible assumption)) | (refine Upd.setCell ?_ (fun h => absurd h (by first | exact Nat.lt_irrefl _ | (simp only []; omega))) _))); done)⟩
  have hs46 : (s == [46]) = false := beq_eq_false_iff_ne.2 hs
  have hsh := Lib.hid hs
  clear hs
  rcases Nat.lt_or_ge 2000 s.length with hlong | hshort
  · have hf := Lib.hid (parS_none (parO_far hsh.out hlong))
    go_enter Try.func20, Try.ntmps20
    go_wp2_with (first | (with_reducible refine wp_serial (by kernel_rfl) (by kernel_rfl) (by (repeat (first | (with_reducible apply NoBad.then) | (with_reducible apply NoBad.inBlock) | (with_reducible exact NoBad.rets))); done) ?_) | fail)
    all_goals go_returns
    all_goals exact ⟨by rw [hf.out.1, hf.out.2]; rfl, (by (repeat (first | (with_reducible exact Upd.refl _ _) | (with_reducible assumption) | (with_reducible apply Upd.drew) | (with_reducible apply Upd.alloc) | (refine Upd0.tr ?_ (by with_reducible assumption)) | (refine Upd.setCell ?_ (fun h => absurd h (by first | exact Nat.lt_irrefl _ | (simp only []; omega))) _))); done)⟩
  obtain ⟨i1, hj, hy0, hy1, hy2⟩ := info_parts info_str
  go_enter Try.func20, Try.ntmps20
  go_wp2_with (first | (with_reducible refine wp_serial (by kernel_rfl) (by kernel_rfl) (by (repeat (first | (with_reducible apply NoBad.then) | (with_reducible apply NoBad.inBlock) | (with_reducible exact NoBad.rets))); done) ?_) | fail)
  go_loopw [4, 5, 6] (fun l b i wr => ∃ (at_ : Nat) (acc : List Bs) (lbl : Bs) (ao : Option Addr) (ca : Nat), at_ ≤ s.length ∧ i = .int .i64 at_ ∧ l = .slice ao acc.length ca ∧ b = .string ⟨lbl.toArray⟩ ∧ acc.length ≤ at_ ∧ lbl.length ≤ at_ ∧ Upd0 w wr ∧
      Hid (wr.ownsRow w.heap.size 9 1 (.slice ao acc.length ca) acc.length (strs acc)) ∧ Hid (parR s [] = acc ++ parR (s.drop at_) lbl)) (fun _ _ i _ => s.length - (intOf i).toNat)
  case atStart => exact ⟨0, [], [], none, 0, Nat.zero_le _, rfl, rfl, rfl, Nat.le_refl _, Nat.le_refl _, Upd.refl _ _, Lib.hid (World.ownsRow_nil _ _ _ _), Lib.hid (by simp)⟩
  case round =>
    obtain ⟨k, acc, lbl, ao, ca, hk, rfl, rfl, rfl, hal, hll, hu, ho, hp⟩ := hrel
    have hsz := hu.size
    by_cases hlt : k < s.length
    · obtain ⟨x, t, hd, hx, hd1, hl1, hl2⟩ := drop_facts hlt
      have hxk : s[k]? = some x := by rw [List.getElem?_eq_getElem hlt, hx]
      by_cases h46 : x = 46
      · subst h46
        have hst := Lib.hid (show parR s [] = (acc ++ [lbl]) ++ parR (s.drop (k + 1)) [] by rw [hp.out, parR_dot hd]; simp)
        clear hd hd1 hxk
        go_wp2_with (first
          | (at_builtin; refine wpList_app (w := wr) (by (repeat (first | exact Ext.refl _ | assumption | apply Ext.drew | apply Ext.alloc)); done) rfl (.tmp 27) (.tmp 29) 40 rfl 9 i1 (.string .empty) 1 16 Try.underlying40 hj hy0 hy1 hy2 rfl (by decide) (.slice ao acc.length ca) acc.length (strs acc) (ownsRow_mono ho.out (fun _ _ => Nat.zero_le _)) rfl wr.heap.size 1 1 [.string ⟨lbl.toArray⟩] rfl rfl (alloc_last _ _ _ (by simp)) (by rfl) (by omega) (by omega) ?_; intro ao' cap' w3 hown' hu3 hf3; have hown3 := Lib.hid hown'; have hf3h := Lib.hid hf3; clear hown' hf3)
          | (with_reducible refine wp_serial (by kernel_rfl) (by kernel_rfl) (by (repeat (first | (with_reducible apply NoBad.then) | (with_reducible apply NoBad.inBlock) | (with_reducible exact NoBad.rets))); done) ?_) | fail)
        have hU : Upd0 w w3 := Upd.trans (show Upd0 w (wr.alloc _) from (by (repeat (first | (with_reducible exact Upd.refl _ _) | (with_reducible assumption) | (with_reducible apply Upd.drew) | (with_reducible apply Upd.alloc) | (refine Upd0.tr ?_ (by with_reducible assumption)) | (refine Upd.setCell ?_ (fun h => absurd h (by first | exact Nat.lt_irrefl _ | (simp only []; omega))) _))); done)) hu3 (fun q hq hs => absurd hq (by have := (ho.out.lt q hs).1; omega))
        go_roundw
        case rel => exact ⟨k + 1, acc ++ [lbl], [], ao', cap', by omega, by go_num, by simp, rfl, by simp; omega, by simp, hU, Lib.hid (by
            have h3 : w3.ownsRow w.heap.size 9 1 (.slice ao' (acc.length + 1) cap') (acc.length + 1) (strs acc ++ [.string ⟨lbl.toArray⟩]) := ownsRow_mono hown3.out (fun q hq => by
              rcases hf3h.out q hq with h | h
              · exact (ho.out.lt q h).1
              · simp only [World.size_alloc] at h; omega)
            have e : strs (acc ++ [lbl]) = strs acc ++ [.string ⟨lbl.toArray⟩] := by simp [strs]
            rw [e, List.length_append]; exact h3), hst⟩
        case measure => simp [intOf]; omega
      · by_cases h92 : x = 92
        · subst h92
          cases t with
          | nil =>
            have hst := Lib.hid (show parR s [] = acc ++ parR (s.drop (k + 1)) (lbl ++ [92]) by rw [hp.out, parR_lit hd (show rx [92] = (some 92, 1) from rfl)])
            have h1 := Lib.hid (one_of hxk)
            simp only [List.length_nil] at hl1 hl2
            clear hd hd1 hxk h46
            go_wp2_with (first | (with_reducible refine S5.wp_serial3_0 135 [6] [0, 1, 2, 3, 4, 5, 6, 7, 8, 9, 10, 11, 12, 13, 14, 15, 16, 17, 18, 19, 20, 21, 22] [_, _, _, _, _, _, _, _, _, _, _, _, _, _, _, _, _, _, _, _, _, _, _] (by kernel_rfl) (by decide +kernel) rfl (by refine ⟨by first | decide | simp, fun s hs => ?_⟩; simp only [List.mem_cons, List.not_mem_nil, or_false] at hs; rcases hs with rfl <;> first | rfl | simp [go_sem, S5.isI, Act.eval]) (by (repeat (first | (with_reducible apply NoBad.then) | (with_reducible apply NoBad.inBlock) | (with_reducible exact NoBad.rets))); done) ?_) | (with_reducible refine wp_serial (by kernel_rfl) (by kernel_rfl) (by (repeat (first | (with_reducible apply NoBad.then) | (with_reducible apply NoBad.inBlock) | (with_reducible exact NoBad.rets))); done) ?_) | fail)
            go_roundw
            case rel => exact ⟨k + 1, acc, _, ao, ca, by omega, by go_num, rfl, rfl, by omega, by rw [h1.out]; simp; omega, (by (repeat (first | (with_reducible exact Upd.refl _ _) | (with_reducible assumption) | (with_reducible apply Upd.drew) | (with_reducible apply Upd.alloc) | (refine Upd0.tr ?_ (by with_reducible assumption)) | (refine Upd.setCell ?_ (fun h => absurd h (by first | exact Nat.lt_irrefl _ | (simp only []; omega))) _))); done), ho, Lib.hid (by rw [h1.out]; exact hst.out)⟩
            case measure => simp [intOf]; omega
          | cons y r =>
            simp only [List.length_cons] at hl1 hl2
            have hyk : s[k + 1]? = some y := by have := congrArg (fun l : Bs => l[1]?) hd; simpa [List.getElem?_drop] using this
            have hy1 : s[k + 1]'(by omega) = y := (List.getElem?_eq_some_iff.1 hyk).2
            by_cases hy : y = 46 ∨ y = 92
            · have hst := Lib.hid (show parR s [] = acc ++ parR (s.drop (k + 2)) (lbl ++ [y]) by
                rw [hp.out, parR_lit hd (show rx (92 :: y :: r) = (some y, 2) by rw [rx_cons, if_neg (by decide), if_pos rfl, rxE_cons, if_pos hy])])
              have h1 := Lib.hid (one_of hyk)
              clear hd hd1 hxk h46 hyk
              rcases hy with rfl | rfl
              all_goals
                go_wp2_with (first | (with_reducible refine S5.wp_serial3_0 135 [6] [0, 1, 2, 3, 4, 5, 6, 7, 8, 9, 10, 11, 12, 13, 14, 15, 16, 17, 18, 19, 20, 21, 22] [_, _, _, _, _, _, _, _, _, _, _, _, _, _, _, _, _, _, _, _, _, _, _] (by kernel_rfl) (by decide +kernel) rfl (by refine ⟨by first | decide | simp, fun s hs => ?_⟩; simp only [List.mem_cons, List.not_mem_nil, or_false] at hs; rcases hs with rfl <;> first | rfl | simp [go_sem, S5.isI, Act.eval]) (by (repeat (first | (with_reducible apply NoBad.then) | (with_reducible apply NoBad.inBlock) | (with_reducible exact NoBad.rets))); done) ?_) | (with_reducible refine wp_serial (by kernel_rfl) (by kernel_rfl) (by (repeat (first | (with_reducible apply NoBad.then) | (with_reducible apply NoBad.inBlock) | (with_reducible exact NoBad.rets))); done) ?_) | fail)
                go_roundw
                case rel => exact ⟨k + 2, acc, _, ao, ca, by omega, by go_num, rfl, rfl, by omega, by rw [h1.out]; simp; omega, (by (repeat (first | (with_reducible exact Upd.refl _ _) | (with_reducible assumption) | (with_reducible apply Upd.drew) | (with_reducible apply Upd.alloc) | (refine Upd0.tr ?_ (by with_reducible assumption)) | (refine Upd.setCell ?_ (fun h => absurd h (by first | exact Nat.lt_irrefl _ | (simp only []; omega))) _))); done), ho, Lib.hid (by rw [h1.out]; exact hst.out)⟩
                case measure => simp [intOf]; omega
            · obtain ⟨e1, e2⟩ := u8_lit hy
              match r, hd, hl1, hl2 with
              | [], hd, hl1, hl2 =>
                have hst := Lib.hid (show parR s [] = acc ++ parR (s.drop (k + 1)) (lbl ++ [92]) by
                  rw [hp.out, parR_lit hd (show rx [92, y] = (some 92, 1) by rw [rx_cons, if_neg (by decide), if_pos rfl, rxE_cons, if_neg hy])])
                have h1 := Lib.hid (one_of hxk)
                simp only [List.length_nil] at hl1 hl2
                clear hd hd1 hxk h46 hyk hy
                go_wp2_with (first | (with_reducible refine S5.wp_serial3_0 135 [6] [0, 1, 2, 3, 4, 5, 6, 7, 8, 9, 10, 11, 12, 13, 14, 15, 16, 17, 18, 19, 20, 21, 22] [_, _, _, _, _, _, _, _, _, _, _, _, _, _, _, _, _, _, _, _, _, _, _] (by kernel_rfl) (by decide +kernel) rfl (by refine ⟨by first | decide | simp, fun s hs => ?_⟩; simp only [List.mem_cons, List.not_mem_nil, or_false] at hs; rcases hs with rfl <;> first | rfl | simp [go_sem, S5.isI, Act.eval]) (by (repeat (first | (with_reducible apply NoBad.then) | (with_reducible apply NoBad.inBlock) | (with_reducible exact NoBad.rets))); done) ?_) | (with_reducible refine wp_serial (by kernel_rfl) (by kernel_rfl) (by (repeat (first | (with_reducible apply NoBad.then) | (with_reducible apply NoBad.inBlock) | (with_reducible exact NoBad.rets))); done) ?_) | fail)
                go_roundw
                case rel => exact ⟨k + 1, acc, _, ao, ca, by omega, by go_num, rfl, rfl, by omega, by rw [h1.out]; simp; omega, (by (repeat (first | (with_reducible exact Upd.refl _ _) | (with_reducible assumption) | (with_reducible apply Upd.drew) | (with_reducible apply Upd.alloc) | (refine Upd0.tr ?_ (by with_reducible assumption)) | (refine Upd.setCell ?_ (fun h => absurd h (by first | exact Nat.lt_irrefl _ | (simp only []; omega))) _))); done), ho, Lib.hid (by rw [h1.out]; exact hst.out)⟩
                case measure => simp [intOf]; omega
              | [a], hd, hl1, hl2 =>
                have hst := Lib.hid (show parR s [] = acc ++ parR (s.drop (k + 1)) (lbl ++ [92]) by
                  rw [hp.out, parR_lit hd (show rx [92, y, a] = (some 92, 1) by rw [rx_cons, if_neg (by decide), if_pos rfl, rxE_cons, if_neg hy])])
                have h1 := Lib.hid (one_of hxk)
                simp only [List.length_nil, List.length_cons] at hl1 hl2
                clear hd hd1 hxk h46 hyk hy
                go_wp2_with (first | (with_reducible refine S5.wp_serial3_0 135 [6] [0, 1, 2, 3, 4, 5, 6, 7, 8, 9, 10, 11, 12, 13, 14, 15, 16, 17, 18, 19, 20, 21, 22] [_, _, _, _, _, _, _, _, _, _, _, _, _, _, _, _, _, _, _, _, _, _, _] (by kernel_rfl) (by decide +kernel) rfl (by refine ⟨by first | decide | simp, fun s hs => ?_⟩; simp only [List.mem_cons, List.not_mem_nil, or_false] at hs; rcases hs with rfl <;> first | rfl | simp [go_sem, S5.isI, Act.eval]) (by (repeat (first | (with_reducible apply NoBad.then) | (with_reducible apply NoBad.inBlock) | (with_reducible exact NoBad.rets))); done) ?_) | (with_reducible refine wp_serial (by kernel_rfl) (by kernel_rfl) (by (repeat (first | (with_reducible apply NoBad.then) | (with_reducible apply NoBad.inBlock) | (with_reducible exact NoBad.rets))); done) ?_) | fail)
                go_roundw
                case rel => exact ⟨k + 1, acc, _, ao, ca, by omega, by go_num, rfl, rfl, by omega, by rw [h1.out]; simp; omega, (by (repeat (first | (with_reducible exact Upd.refl _ _) | (with_reducible assumption) | (with_reducible apply Upd.drew) | (with_reducible apply Upd.alloc) | (refine Upd0.tr ?_ (by with_reducible assumption)) | (refine Upd.setCell ?_ (fun h => absurd h (by first | exact Nat.lt_irrefl _ | (simp only []; omega))) _))); done), ho, Lib.hid (by rw [h1.out]; exact hst.out)⟩
                case measure => simp [intOf]; omega
              | a :: b :: q, hd, hl1, hl2 =>
                have hst := Lib.hid (show parR s [] = acc ++ parR (s.drop (k + 4)) (lbl ++ [numR y a b]) by
                  rw [hp.out, parR_lit hd (show rx (92 :: y :: a :: b :: q) = (some (numR y a b), 4) by rw [rx_cons, if_neg (by decide), if_pos rfl, rxE_cons, if_neg hy])])
                simp only [List.length_cons] at hl1 hl2
                have hak : s[k + 2]? = some a := by have := congrArg (fun l : Bs => l[2]?) hd; simpa [List.getElem?_drop] using this
                have hbk : s[k + 3]? = some b := by have := congrArg (fun l : Bs => l[3]?) hd; simpa [List.getElem?_drop] using this
                have ha1 : s[k + 2]'(by omega) = a := (List.getElem?_eq_some_iff.1 hak).2
                have hb1 : s[k + 3]'(by omega) = b := (List.getElem?_eq_some_iff.1 hbk).2
                have b1 : y.toNat ≤ 255 := by have := y.toNat_lt; omega
                have b2 : a.toNat ≤ 255 := by have := a.toNat_lt; omega
                have b3 : b.toNat ≤ 255 := by have := b.toNat_lt; omega
                clear hd hd1 hxk h46 hyk hy hak hbk
                go_wp2_with (first
                  | (refine wpList_ofB rfl (.tmp 101) 74 9 rfl 5 Try.underlying74 Try.underlying5 Try.underlying9 rfl (cells_br (numR_cell y a b) rfl (alloc_last wr _ wr.heap.size rfl) (by omega)) ?_)
                  | (with_reducible refine S5.wp_serial3_0 135 [6] [0, 1, 2, 3, 4, 5, 6, 7, 8, 9, 10, 11, 12, 13, 14, 15, 16, 17, 18, 19, 20, 21, 22] [_, _, _, _, _, _, _, _, _, _, _, _, _, _, _, _, _, _, _, _, _, _, _] (by kernel_rfl) (by decide +kernel) rfl (by refine ⟨by first | decide | simp, fun s hs => ?_⟩; simp only [List.mem_cons, List.not_mem_nil, or_false] at hs; rcases hs with rfl <;> first | rfl | simp [go_sem, S5.isI, Act.eval]) (by (repeat (first | (with_reducible apply NoBad.then) | (with_reducible apply NoBad.inBlock) | (with_reducible exact NoBad.rets))); done) ?_) | (with_reducible refine wp_serial (by kernel_rfl) (by kernel_rfl) (by (repeat (first | (with_reducible apply NoBad.then) | (with_reducible apply NoBad.inBlock) | (with_reducible exact NoBad.rets))); done) ?_) | fail)
                go_roundw
                case rel => exact ⟨k + 4, acc, lbl ++ [numR y a b], ao, ca, by omega, by go_num, rfl, rfl, by omega, by simp; omega, (by (repeat (first | (with_reducible exact Upd.refl _ _) | (with_reducible assumption) | (with_reducible apply Upd.drew) | (with_reducible apply Upd.alloc) | (refine Upd0.tr ?_ (by with_reducible assumption)) | (refine Upd.setCell ?_ (fun h => absurd h (by first | exact Nat.lt_irrefl _ | (simp only []; omega))) _))); done), Lib.hid (ownsRow_upd (S := fun _ => False) ho.out (by (repeat (first | (with_reducible exact Upd.refl _ _) | (with_reducible assumption) | (with_reducible apply Upd.drew) | (with_reducible apply Upd.alloc) | (refine Upd0.tr ?_ (by with_reducible assumption)) | (refine Upd.setCell ?_ (fun h => absurd h (by first | exact Nat.lt_irrefl _ | (simp only []; omega))) _))); done) (fun _ _ h => h)), hst⟩
                case measure => simp [intOf]; omega
        · obtain ⟨e1, e2⟩ := u8_lit (show ¬ (x = 46 ∨ x = 92) by rintro (h | h); exact h46 h; exact h92 h)
          have hst := Lib.hid (show parR s [] = acc ++ parR (s.drop (k + 1)) (lbl ++ [x]) by
            rw [hp.out, parR_lit hd (show rx (x :: t) = (some x, 1) by rw [rx_cons, if_neg h46, if_neg h92])])
          have h1 := Lib.hid (one_of hxk)
          clear hd hd1 hxk h46 h92
          go_wp2_with (first | (with_reducible refine S5.wp_serial3_0 135 [6] [0, 1, 2, 3, 4, 5, 6, 7, 8, 9, 10, 11, 12, 13, 14, 15, 16, 17, 18, 19, 20, 21, 22] [_, _, _, _, _, _, _, _, _, _, _, _, _, _, _, _, _, _, _, _, _, _, _] (by kernel_rfl) (by decide +kernel) rfl (by refine ⟨by first | decide | simp, fun s hs => ?_⟩; simp only [List.mem_cons, List.not_mem_nil, or_false] at hs; rcases hs with rfl <;> first | rfl | simp [go_sem, S5.isI, Act.eval]) (by (repeat (first | (with_reducible apply NoBad.then) | (with_reducible apply NoBad.inBlock) | (with_reducible exact NoBad.rets))); done) ?_) | (with_reducible refine wp_serial (by kernel_rfl) (by kernel_rfl) (by (repeat (first | (with_reducible apply NoBad.then) | (with_reducible apply NoBad.inBlock) | (with_reducible exact NoBad.rets))); done) ?_) | fail)
          go_roundw
          case rel => exact ⟨k + 1, acc, _, ao, ca, by omega, by go_num, rfl, rfl, by omega, by rw [h1.out]; simp; omega, (by (repeat (first | (with_reducible exact Upd.refl _ _) | (with_reducible assumption) | (with_reducible apply Upd.drew) | (with_reducible apply Upd.alloc) | (refine Upd0.tr ?_ (by with_reducible assumption)) | (refine Upd.setCell ?_ (fun h => absurd h (by first | exact Nat.lt_irrefl _ | (simp only []; omega))) _))); done), ho, Lib.hid (by rw [h1.out]; exact hst.out)⟩
          case measure => simp [intOf]; omega
    · have hpp : parR s [] = acc := by rw [hp.out, List.drop_of_length_le (by omega), parR_nil]; simp
      have hO := parO_ref hsh.out hshort
      rw [hpp] at hO
      clear hpp hp
      have hjl := jnS_len acc
      cases hJ : jnB acc with
      | false =>
        have hf := parS_none (hO.trans (by rw [if_neg (by rw [isTxt, hJ]; simp)]))
        have hfh := Lib.hid hf
        have hj := Lib.hid (show jnC acc = 1 by rw [jnC, hJ]; rfl)
        clear hf hO hJ
        go_wp2_with (first
          | (go_at_call 33; (with_reducible refine (rjoin_w ao ca acc wr (own_sr ho.out rfl) (by omega)).use ?_); rintro v w2 ⟨rfl, hu2⟩; rw [hj.out])
          | (go_at_call 18; (with_reducible refine (rprint_w (jnS acc) (by omega) _).use ?_); rintro v w3 ⟨rfl, hu3⟩)
          | (with_reducible refine wp_serial (by kernel_rfl) (by kernel_rfl) (by (repeat (first | (with_reducible apply NoBad.then) | (with_reducible apply NoBad.inBlock) | (with_reducible exact NoBad.rets))); done) ?_) | fail)
        all_goals go_returns
        all_goals exact ⟨by rw [hfh.out.1, hfh.out.2]; rfl, (by (repeat (first | (with_reducible exact Upd.refl _ _) | (with_reducible assumption) | (with_reducible apply Upd.drew) | (with_reducible apply Upd.alloc) | (refine Upd0.tr ?_ (by with_reducible assumption)) | (refine Upd.setCell ?_ (fun h => absurd h (by first | exact Nat.lt_irrefl _ | (simp only []; omega))) _))); done)⟩
      | true =>
        have hj : jnC acc = 0 ∧ jnS acc = jn acc := ⟨by rw [jnC, hJ]; rfl, by rw [jnS, hJ]; rfl⟩
        have hpr := prn_jn hJ
        rw [← hj.2] at hpr
        by_cases hE : prnL acc = s
        · have hf := Lib.hid (parS_some (hO.trans (by rw [if_pos (by rw [isTxt, hJ, hE]; simp)])))
          rw [hE] at hpr
          have hjh := Lib.hid hj
          have hph := Lib.hid hpr
          clear hO hJ hj hpr hE
          go_wp2_with (first
            | (go_at_call 33; (with_reducible refine (rjoin_w ao ca acc wr (own_sr ho.out rfl) (by omega)).use ?_); rintro v w2 ⟨rfl, hu2⟩; rw [hjh.out.1])
            | (go_at_call 18; (with_reducible refine (rprint_w (jnS acc) (by omega) _).use ?_); rintro v w3 ⟨rfl, hu3⟩; rw [hph.out.1, hph.out.2])
            | (with_reducible refine wp_serial (by kernel_rfl) (by kernel_rfl) (by (repeat (first | (with_reducible apply NoBad.then) | (with_reducible apply NoBad.inBlock) | (with_reducible exact NoBad.rets))); done) ?_) | fail)
          all_goals go_returns
          all_goals exact ⟨by rw [hf.out.1, hf.out.2, ← hjh.out.2]; rfl, (by (repeat (first | (with_reducible exact Upd.refl _ _) | (with_reducible assumption) | (with_reducible apply Upd.drew) | (with_reducible apply Upd.alloc) | (refine Upd0.tr ?_ (by with_reducible assumption)) | (refine Upd.setCell ?_ (fun h => absurd h (by first | exact Nat.lt_irrefl _ | (simp only []; omega))) _))); done)⟩
        · have hfh := Lib.hid (parS_none (hO.trans (by rw [if_neg (by rw [isTxt, hJ]; simpa using hE)])))
          have hEb : (prnL acc == s) = false := beq_eq_false_iff_ne.2 hE
          have hjh := Lib.hid hj
          have hph := Lib.hid hpr
          clear hO hJ hj hpr hE
          go_wp2_with (first
            | (go_at_call 33; (with_reducible refine (rjoin_w ao ca acc wr (own_sr ho.out rfl) (by omega)).use ?_); rintro v w2 ⟨rfl, hu2⟩; rw [hjh.out.1])
            | (go_at_call 18; (with_reducible refine (rprint_w (jnS acc) (by omega) _).use ?_); rintro v w3 ⟨rfl, hu3⟩; rw [hph.out.1, hph.out.2])
            | (with_reducible refine wp_serial (by kernel_rfl) (by kernel_rfl) (by (repeat (first | (with_reducible apply NoBad.then) | (with_reducible apply NoBad.inBlock) | (with_reducible exact NoBad.rets))); done) ?_) | fail)
          all_goals go_returns
          all_goals exact ⟨by rw [hfh.out.1, hfh.out.2]; rfl, (by (repeat (first | (with_reducible exact Upd.refl _ _) | (with_reducible assumption) | (with_reducible apply Upd.drew) | (with_reducible apply Upd.alloc) | (refine Upd0.tr ?_ (by with_reducible assumption)) | (refine Upd.setCell ?_ (fun h => absurd h (by first | exact Nat.lt_irrefl _ | (simp only []; omega))) _))); done)⟩
end Go.Proofs.Ytdjleplefbmjbaa
