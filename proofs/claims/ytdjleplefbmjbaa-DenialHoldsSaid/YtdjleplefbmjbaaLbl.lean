/-
  name.labels, name.cut.
-/
import Derived.RangeFuncNested
import Derived.RangeFuncBound
import Derived.Shelf.RegionOpen
import Derived.WalkKit
import Derived.OwnWalkIn
import Derived.TacticsInMore
import Derived.LoopNIn
import Derived.LoopIn
import Derived.Test.YtdjleplefbmjbaaRng
import Derived.Test.YtdjleplefbmjbaaPlA
import Derived.Test.YtdjleplefbmjbaaStr
import Derived.Test.YtdjleplefbmjbaaRows
namespace Go.Proofs.Ytdjleplefbmjbaa
open Go.RowKit Go.Shelf
set_option linter.unusedSimpArgs false
set_option linter.unusedVariables false
attribute [local go_sem] Oper.semAt_some
def encL (x : Bs × Bool) : Array Value := #[.string ⟨x.1.toArray⟩, .bool x.2]
def restOf (W : World) (cb : Nat) : Nat := match W.cell? ⟨cb, 0, none⟩ with | some (.string s) => s.size | _ => 0
set_option maxHeartbeats 1000000 in
theorem labels1_seq (s : Bs) (hs : s.length ≤ maxLen) (w : World) (cb : Nat) (hc : w.heap[cb]? = some (.cells #[.string ⟨s.toArray⟩] 22 (0, 0))) :
    SeqCell Fence.wide 3 Try.prog 78 cb #[.pointer (some ⟨cb, 0, none⟩)] encL (yl s) w := by
  intro l J Jx W hu hJs hY h0
  unfold maxLen at hs
  refine callsIn_of_wp Try.func78 rfl trivial ?_ rfl
  simp only [Try.ntmps78, List.size_toArray, List.length_cons, List.length_nil, Nat.reduceAdd, Nat.reduceSub, Array.replicate_succ, Array.replicate_zero, List.push_toArray, List.append_toArray, List.nil_append, List.cons_append]
  gi_wp2
  gi_loopw [] (fun wr => ∃ (pre : List (Bs × Bool)) (rest : Bs), yl s = pre ++ yl rest ∧ rest.length ≤ s.length ∧ wr.heap[cb]? = some (.cells #[.string ⟨rest.toArray⟩] 22 (0, 0)) ∧ J pre wr)
    (fun wr => restOf wr cb)
  case atStart => exact ⟨[], s, rfl, Nat.le_refl _, hu.block (fun h => h) hc, h0⟩
  case round =>
    obtain ⟨pre, rest, hx, hrl, hb, hJ⟩ := hrel
    have hc0 : wr.cell? ⟨cb, 0, none⟩ = some (.string ⟨rest.toArray⟩) := by simpa using blk_cell hb 0
    have hf0 := blk_frz hb 0
    have hro : restOf wr cb = rest.length := by simp [restOf, hc0, ByteArray.size]
    have hroh := Lib.hid hro
    have hxh := Lib.hid hx
    have hbh := Lib.hid hb
    clear hro hx hb
    cases rest with
    | nil =>
      gi_wp2
      go_end0
      exact ⟨⟨_, rfl⟩, .inl (by rw [hxh.out, yl_nil, List.append_nil]; exact hJ)⟩
    | cons k t =>
      cases hok : okL k t with
      | true =>
        obtain ⟨hk1, hk2, hk3⟩ := okL_iff.1 hok
        obtain ⟨fn, tmps, assign, body, hy, hR⟩ := hY pre (t.take k.toNat, true) wr ⟨yl (t.drop k.toNat), by rw [hxh.out, yl_cons, if_pos hok]; simp⟩ hJ
        simp only [encL] at hy
        simp only [List.length_cons] at hrl
        gi_wp2
        refine hR.mono ?_
        rintro e W3 (⟨rfl, hJ3, hk3'⟩ | ⟨rfl, hJx3⟩)
        · have hb3 : W3.heap[cb]? = _ := hk3'.trans hbh.out
          have hc3 : W3.cell? ⟨cb, 0, none⟩ = some (.string ⟨(k :: t).toArray⟩) := by simpa using blk_cell hb3 0
          have hf3 := blk_frz hb3 0
          have hb3h := Lib.hid hb3
          clear hb3 hk3'
          gi_wp2
          refine ⟨⟨pre ++ [(t.take k.toNat, true)], t.drop k.toNat, by rw [hxh.out, yl_cons, if_pos hok, List.append_assoc]; rfl, by simp; omega, by simpa using blk_set hb3h.out 0 _, hJs _ _ _ hJ3⟩, ?_⟩
          have hn : restOf (W3.setCell ⟨cb, 0, none⟩ (.string ⟨(t.drop k.toNat).toArray⟩)) cb = (t.drop k.toNat).length := by
            have : (W3.setCell ⟨cb, 0, none⟩ (.string ⟨(t.drop k.toNat).toArray⟩)).cell? ⟨cb, 0, none⟩ = some (.string ⟨(t.drop k.toNat).toArray⟩) := by
              simpa using blk_cell (blk_set hb3h.out 0 (.string ⟨(t.drop k.toNat).toArray⟩)) 0
            rw [restOf, this]; rfl
          rw [hn, hroh.out]; simp; omega
        · gi_wp2
          refine bodyPost_ret (results_none rfl _ _ _) rfl ?_
          exact ⟨⟨_, rfl⟩, .inr ⟨pre ++ [(t.take k.toNat, true)], ⟨yl (t.drop k.toNat), by rw [hxh.out, yl_cons, if_pos hok]; simp⟩, hJx3⟩⟩
      | false =>
        obtain ⟨fn, tmps, assign, body, hy, hR⟩ := hY pre ([], false) wr ⟨[], by rw [hxh.out, yl_cons, if_neg (by rw [hok]; decide), List.append_nil]⟩ hJ
        simp only [encL] at hy
        simp only [List.length_cons] at hrl
        have hno := okL_no hok
        have hfin := Lib.hid (show yl s = pre ++ [([], false)] by rw [hxh.out, yl_cons, if_neg (by rw [hok]; decide)])
        clear hok
        rcases hno with hk1 | ⟨hk1, hk2⟩ | ⟨hk1, hk2, hk3⟩
        all_goals
          gi_wp2
          refine hR.mono ?_
          rintro e W3 (⟨rfl, hJ3, hk3'⟩ | ⟨rfl, hJx3⟩)
          · clear hk3'
            gi_wp2
            refine bodyPost_ret (results_none rfl _ _ _) rfl ?_
            exact ⟨⟨_, rfl⟩, .inl (by rw [hfin.out]; exact hJ3)⟩
          · gi_wp2
            refine bodyPost_ret (results_none rfl _ _ _) rfl ?_
            exact ⟨⟨_, rfl⟩, .inr ⟨_, ⟨[], by rw [List.append_nil]; exact hfin.out.symm⟩, hJx3⟩⟩
theorem labels_any (s : Bs) (w : World) : CallsIn Fence.wide 3 Try.prog 68 #[.string ⟨s.toArray⟩] w fun e w' =>
    e = .returned (.func (.func 78) #[] #[.pointer (some ⟨w.heap.size, 0, none⟩)]) ∧ w' = w.alloc (.cells #[.string ⟨s.toArray⟩] 22) := by
  refine callsIn_of_wp Try.func68 rfl trivial ?_ rfl
  simp only [Try.ntmps68, List.size_toArray, List.length_cons, List.length_nil, Nat.reduceAdd, Nat.reduceSub, Array.replicate_succ, Array.replicate_zero, List.push_toArray, List.append_toArray, List.nil_append, List.cons_append]
  gi_wp2
  go_ret
  exact ⟨rfl, rfl⟩
end Go.Proofs.Ytdjleplefbmjbaa
