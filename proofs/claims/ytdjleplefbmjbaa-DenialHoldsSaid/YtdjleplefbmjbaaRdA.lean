/-
  Whether a name may be; a name's bytes as data.
-/
import Derived.Handy
import Derived.Test.YtdjleplefbmjbaaCut
import Derived.Maps.AppendAt
namespace Go.Proofs.Ytdjleplefbmjbaa
open Go.RowKit
set_option linter.unusedSimpArgs false
set_option linter.unusedVariables false
def checkC (s : Bs) : Int := if cutB s then 0 else 1
theorem check_any (s : Bs) (hm : s.length ≤ maxLen) (w : World) : Calls Try.prog 23 #[.string ⟨s.toArray⟩] w (Rets fun r w' => r = .int .i64 (checkC s) ∧ Upd0 w w') := by
  go_enter Try.func23, Try.ntmps23
  go_wp2_with (first
    | (go_at_call 43; refine (cut_any s hm _).use ?_; rintro v w1 ⟨ao, cap, rfl, hr, hb⟩; have hu1 := Upd0.of_below hb; clear hr hb)
    | fail)
  all_goals go_returns
  all_goals exact ⟨by simp_all [checkC], (by (repeat (first | (with_reducible exact Upd.refl _ _) | (with_reducible assumption) | (with_reducible apply Upd.drew) | (with_reducible apply Upd.alloc) | (refine Upd0.tr ?_ (by with_reducible assumption)) | (refine Upd.setCell ?_ (fun h => absurd h (by first | exact Nat.lt_irrefl _ | (simp only []; omega))) _))); done)⟩

set_option maxRecDepth 100000 in
set_option maxHeartbeats 1000000 in
theorem rcut_any (s : Bs) (hm : s.length ≤ maxLen) (w : World) : Calls Try.prog 47 #[.string ⟨s.toArray⟩] w (Rets fun r w' =>
    ∃ ao cap, r = .tuple #[.slice ao (cutL s).length cap, .bool (cutB s)] ∧ w'.ownsRow w.heap.size 9 1 (.slice ao (cutL s).length cap) (cutL s).length (strs (cutL s)) ∧ Upd0 w w') := by
  obtain ⟨i0, hi, hz0, hz1, hz2⟩ := info_parts info_str
  unfold maxLen at hm
  by_cases hs : s.length ≤ 254
  · go_enter Try.func47, Try.ntmps47
    go_wp2_with fail
    go_loopw [4, 5] (fun o i wr => ∃ (k : Nat) (acc : List Bs) (ao : Option Addr) (cap : Nat), k ≤ s.length ∧ i = .int .i64 k ∧ o = .slice ao acc.length cap ∧ acc.length ≤ k ∧ Hid (wr.ownsRow w.heap.size 9 1 (.slice ao acc.length cap) acc.length (strs acc)) ∧ Upd0 w wr ∧ Hid (lab s = (lab (s.drop k)).map (acc ++ ·)))
      (fun _ i _ => s.length - (intOf i).toNat)
    case atStart => exact ⟨0, [], none, 0, Nat.zero_le _, rfl, rfl, Nat.le_refl _, Lib.hid (World.ownsRow_nil _ _ _ _), Upd.refl _ _, Lib.hid (by simp)⟩
    case round =>
      obtain ⟨i, acc, ao, cap, hi1, rfl, rfl, hal, hrow, hu, hl⟩ := hrel
      by_cases hlt : i < s.length
      · obtain ⟨k, t, hkt, hk, ht, hlen1, hlen2⟩ := drop_facts hlt
        have hkth := Lib.hid hkt
        clear hkt
        cases hok : okL k t with
        | true =>
          obtain ⟨hk1, hk2, hk3⟩ := okL_iff.1 hok
          have hx : (s.take (i + 1 + k.toNat)).drop (i + 1) = t.take k.toNat := by rw [← ht, List.drop_take]; congr 1; omega
          have hokh := Lib.hid hok
          clear hok
          go_wp2_with (first
            | (at_builtin; refine wpList_append_own _ rfl _ _ 40 rfl w.heap.size 9 i0 (.string .empty) 1 16 Try.underlying40 hi hz0 hz1 hz2 rfl (by decide) _ _ _ rfl (hrow.out.alloc _) ⟨wr.heap.size, 0, none⟩ 1 1 [.string ⟨(t.take k.toNat).toArray⟩] rfl rfl (cell_one_new _ _ _) (by simp [Value.oneCell']) (by unfold maxLen; omega) (by omega) (by have := hu.size; simp only [World.size_alloc]; omega) ?_; intro v' w1 hown' hgrow hni; clear hni; obtain ⟨g', cap', rfl⟩ := ownsRow_succ hown'; have hu1 := app0 hu hrow.out hgrow; have hownh := Lib.hid hown'; clear hown' hgrow)
            | fail)
          go_roundw
          case rel => exact ⟨i + 1 + k.toNat, acc ++ [t.take k.toNat], some ⟨g', 0, none⟩, cap', by omega, by go_num, by simp, by simp; omega, Lib.hid (by simpa [strs] using hownh.out), hu1, Lib.hid (by
            rw [hl.out, hkth.out, lab_cons, if_pos hokh.out, ← List.drop_drop, ht]
            cases lab (t.drop k.toNat) <;> simp)⟩
          case measure => simp [intOf]; omega
        | false =>
          have hno := okL_no hok
          have hfin := Lib.hid (cut_none (show lab s = none by rw [hl.out, hkth.out, lab_cons, if_neg (by rw [hok]; decide)]; rfl))
          clear hok
          rcases hno with hk1 | ⟨hk1, hk2⟩ | ⟨hk1, hk2, hk3⟩
          all_goals
            go_wp2_with (first | fail)
            go_returns
            refine ⟨none, 0, by rw [hfin.out.1, hfin.out.2]; rfl, ?_, hu⟩
            rw [hfin.out.2]; exact World.ownsRow_nil _ _ _ _
      · go_wp2_with (first | fail)
        go_returns
        have hs1 : lab s = some acc := by rw [hl.out, List.drop_of_length_le (by omega), lab_nil]; simp
        have hs2 : cutO s = some acc := by rw [cutO, if_neg (by omega), hs1]
        have hs3 : cutL s = acc := by rw [cutL, hs2]; rfl
        have hs4 : cutB s = true := by rw [cutB, hs2]; rfl
        rw [hs3, hs4]
        exact ⟨_, _, rfl, hrow.out, hu⟩
  · go_enter Try.func47, Try.ntmps47
    go_wp2_with fail
    go_returns
    have hs2 : cutO s = none := by rw [cutO, if_pos (by omega)]
    have hs3 : cutL s = [] := by rw [cutL, hs2]; rfl
    have hs4 : cutB s = false := by rw [cutB, hs2]; rfl
    rw [hs3, hs4]
    exact ⟨none, 0, rfl, World.ownsRow_nil _ _ _ _, Upd.refl _ _⟩
theorem rcheck_any (s : Bs) (hm : s.length ≤ maxLen) (w : World) : Calls Try.prog 27 #[.string ⟨s.toArray⟩] w (Rets fun r w' => r = .int .i64 (checkC s) ∧ Upd0 w w') := by
  go_enter Try.func27, Try.ntmps27
  go_wp2_with (first
    | (go_at_call 47; refine (rcut_any s hm _).use ?_; rintro v w1 ⟨ao, cap, rfl, hr, hu1⟩; clear hr)
    | fail)
  all_goals go_returns
  all_goals exact ⟨by simp_all [checkC], (by (repeat (first | (with_reducible exact Upd.refl _ _) | (with_reducible assumption) | (with_reducible apply Upd.drew) | (with_reducible apply Upd.alloc) | (refine Upd0.tr ?_ (by with_reducible assumption)) | (refine Upd.setCell ?_ (fun h => absurd h (by first | exact Nat.lt_irrefl _ | (simp only []; omega))) _))); done)⟩
end Go.Proofs.Ytdjleplefbmjbaa
