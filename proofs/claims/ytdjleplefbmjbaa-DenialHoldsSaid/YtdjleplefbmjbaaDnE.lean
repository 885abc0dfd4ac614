/-
  slices.Backward over denials: the iterator.
-/
import Derived.RangeFuncNested
import Derived.RangeFuncBound
import Derived.Shelf.RegionOpen
import Derived.WalkKit
import Derived.OwnWalkIn
import Derived.TacticsInMore
import Derived.LoopNIn
import Derived.LoopIn
import Derived.Test.YtdjleplefbmjbaaRgk
import Derived.Test.YtdjleplefbmjbaaDnC
namespace Go.Proofs.Ytdjleplefbmjbaa
open Go.RowKit Go.Shelf
set_option linter.unusedSimpArgs false
set_option linter.unusedVariables false
attribute [local go_sem] Oper.semAt_some
def encE (x : Nat × Ent) : Array Value := #[.int .i64 x.1, .agg #[.string ⟨x.2.nm.toArray⟩, .int .i64 x.2.kd, .int .i64 x.2.k, .string ⟨x.2.sn.toArray⟩, .int .i64 x.2.st, .int .i64 x.2.tl, .string ⟨x.2.sd.toArray⟩, .int .i64 x.2.en]]
/-- the entries, the last one first, with their places -/
def back : List Ent → List (Nat × Ent)
  | [] => []
  | x :: l => (back l).map (fun p => (p.1 + 1, p.2)) ++ [(0, x)]
def backN (es : List Ent) (j : Nat) : List (Nat × Ent) := ((List.range j).reverse).map fun i => (i, es.getD i ⟨[], 0, 0, [], 0, 0, [], 0⟩)
theorem backN_succ (es : List Ent) {j : Nat} {x : Ent} (hx : es[j]? = some x) : backN es (j + 1) = (j, x) :: backN es j := by
  simp [backN, List.range_succ, List.getD_eq_getElem?_getD, hx]
/-- the memory that the iterator reads -/
def KeepE (w : World) (cb : Nat) (v : Value) (es : List Ent) (A : World) : Prop := A.heap[cb]? = some (.cells #[v] 91 (0, 0)) ∧ OffR A 100 8 v es.length (ens es)
set_option maxHeartbeats 2000000 in
set_option maxRecDepth 100000 in
theorem backward_seq (es : List Ent) (hl : es.length ≤ 100000) (v : Value) (w : World) (cb : Nat) (hk : KeepE w cb v es w) :
    SeqKeep (KeepE w cb v es) Fence.wide 3 Try.prog 73 cb #[.pointer (some ⟨cb, 0, none⟩)] encE (backN es es.length) w := by
  intro l J Jx W hu hJK hY h0
  have hJKh := Lib.hid hJK
  obtain ⟨ao, cap, rfl⟩ := hk.2.slice
  have c0 : W.cell? ⟨cb, 0, none⟩ = some (.slice ao es.length cap) := by
    rw [blk_cell (hu.block (fun h => h) hk.1)]; rfl
  clear hJK
  refine callsIn_of_wp Try.func73 rfl trivial ?_ rfl
  simp only [Try.ntmps73, List.size_toArray, List.length_cons, List.length_nil, Nat.reduceAdd, Nat.reduceSub, Array.replicate_succ, Array.replicate_zero, List.push_toArray, List.append_toArray, List.nil_append, List.cons_append]
  gi_wp2
  gi_loopw [3] (fun jj wr => ∃ (j : Nat) (pre : List (Nat × Ent)), j ≤ es.length ∧ jj = .int .i64 ((j : Int) - 1) ∧ backN es es.length = pre ++ backN es j ∧ J pre wr) (fun jj _ => (intOf jj + 1).toNat)
  case atStart => exact ⟨es.length, [], Nat.le_refl _, by go_num, rfl, h0⟩
  case round =>
    obtain ⟨j, pre, hj, rfl, hx, hJ⟩ := hrel
    have hxh := Lib.hid hx
    have hK := hJKh.out _ _ hJ
    have b0 : wr.cell? ⟨cb, 0, none⟩ = some (.slice ao es.length cap) := by rw [blk_cell hK.1]; rfl
    cases j with
    | zero =>
      gi_wp2
      go_end0
      exact ⟨⟨_, rfl⟩, .inl (by rw [hxh.out]; simpa [backN] using hJ)⟩
    | succ j =>
      obtain ⟨x, hxj⟩ : ∃ x, es[j]? = some x := ⟨es[j]'(by omega), List.getElem?_eq_getElem (by omega)⟩
      obtain ⟨g, off, rfl⟩ := hK.2.some (by omega)
      obtain ⟨e0, e1, e2, e3, e4, e5, e6, e7⟩ := ent_cells hK.2 hxj
      have hbs := backN_succ es hxj
      obtain ⟨fn, tmps, assign, body, hy, hR⟩ := hY pre (j, x) wr ⟨backN es j, by rw [hxh.out, hbs]; simp⟩ hJ
      simp only [encE] at hy
      have hfin := Lib.hid (show backN es es.length = (pre ++ [(j, x)]) ++ backN es j by rw [hxh.out, hbs]; simp)
      have hw1 : ((↑(j + 1) : Int) - 1) = j := by omega
      have hjl : (j : Int) < es.length := by omega
      have hj0 : ¬ (j : Int) < 0 := by omega
      clear hbs hx
      rw [hw1]
      gi_wp2
      refine hR.mono ?_
      rintro e W3 (⟨rfl, hJ3, hk3'⟩ | ⟨rfl, hJx3⟩)
      · clear hk3'
        gi_wp2
        refine ⟨⟨j, pre ++ [(j, x)], by omega, by go_num, hfin.out, hJ3⟩, ?_⟩
        simp [intOf]
      · gi_wp2
        refine bodyPost_ret (results_none rfl _ _ _) rfl ?_
        exact ⟨⟨_, rfl⟩, .inr ⟨pre ++ [(j, x)], ⟨backN es j, hfin.out.symm⟩, hJx3⟩⟩
theorem backward_any (ao : Option Addr) (n c : Nat) (w : World) : CallsIn Fence.wide 3 Try.prog 60 #[.slice ao n c] w fun e w' =>
    e = .returned (.func (.func 73) #[] #[.pointer (some ⟨w.heap.size, 0, none⟩)]) ∧ w' = w.alloc (.cells #[.slice ao n c] 91) := by
  refine callsIn_of_wp Try.func60 rfl trivial ?_ rfl
  simp only [Try.ntmps60, List.size_toArray, List.length_cons, List.length_nil, Nat.reduceAdd, Nat.reduceSub, Array.replicate_succ, Array.replicate_zero, List.push_toArray, List.append_toArray, List.nil_append, List.cons_append]
  gi_wp2
  go_ret
  exact ⟨rfl, rfl⟩
end Go.Proofs.Ytdjleplefbmjbaa
