/-
  The document's tables in memory; what Ask makes of them.
-/
import Derived.Test.YtebnilkcpklnmaaCoC
import Derived.Test.YtebnilkcpklnmaaSer6
import Derived.Deep.CutRange
import Derived.Deep.CutBlock
namespace Go.Proofs.Ytebnilkcpklnmaa
open Go.RowKit Go.Maps
set_option linter.unusedSimpArgs false
set_option linter.unusedVariables false
variable {B : Nat}
theorem info_rcl : (Try.prog.info? 36).map (fun i => (i.zero, i.size, i.bytes)) = some (some (.agg #[.int .i64 0, .int .i64 0, .string .empty]), 3, 32) := by kernel_rfl
theorem info_rtk : (Try.prog.info? 89).map (fun i => (i.zero.map (fun z => z.cells.size), i.size, i.bytes)) = some (some 4, 4, 56) := by kernel_rfl
theorem info_rtk' : ∃ i z, Try.prog.info? 89 = some i ∧ i.zero = some z ∧ z.cells.size = 4 ∧ i.size = 4 ∧ i.bytes = 56 := by
  have h := info_rtk
  cases hi : Try.prog.info? 89 with
  | none => rw [hi] at h; cases h
  | some i =>
    rw [hi] at h
    simp only [Option.map_some, Option.some.injEq, Prod.mk.injEq, Option.map_eq_some_iff] at h
    obtain ⟨⟨z, h1, h2⟩, h3, h4⟩ := h
    exact ⟨i, z, rfl, h1, h2, h3, h4⟩
/-- a task in memory: its clients' slice -/
structure TkR where
  k : Tk
  v : Value
def TkR.cells (m : TkR) : List Value := [.int .i64 m.k.num, .string ⟨m.k.q.toArray⟩, .int .i64 m.k.ty, m.v]
theorem rk_len (m : TkR) : m.cells.length = 4 := rfl
def rks (M : List TkR) : List Value := M.flatMap TkR.cells
structure RoIs (B : Nat) (w : World) (t : Nat) (v : Value) (s : Tb) (M : List TkR) : Prop where
  blk : w.heap[t]? = some (.cells #[.int .i64 s.room, .int .i64 s.most, .int .i64 s.last, v] 31 (0, 0))
  row : w.ownsRow 0 89 4 v M.length (rks M)
  abs : M.map (·.k) = s.L
  tsk : ∀ m ∈ M, w.ownsRow 0 36 3 m.v m.k.cs.length (cls m.k.cs)
  dv : M.Pairwise fun a b => ∀ k, a.v.ownBlock = some k → b.v.ownBlock ≠ some k
  lo : B ≤ t ∧ (∀ b, v.ownBlock = some b → B ≤ b) ∧ ∀ m ∈ M, ∀ b, m.v.ownBlock = some b → B ≤ b
def Ro (B : Nat) (w : World) (t : Nat) (s : Tb) : Prop := s.ok ∧ ∃ v M, RoIs B w t v s M
/-- the blocks that a table of the document may lie in -/
def kindR : Option Obj → Bool
  | some (.cells _ t _) => decide (t = 31) || decide (t = 89) || decide (t = 36)
  | _ => false
def UpdR (B : Nat) (w w' : World) : Prop := Upd (fun b => B ≤ b ∧ kindR w.heap[b]? = true) w w'
theorem UpdR.of0 {w w' : World} (h : Upd0 w w') : UpdR B w w' := h.mono (fun _ _ h => h.elim)
theorem UpdR.tr {w w' w'' : World} (h : UpdR B w w') (k : UpdR B w' w'') : UpdR B w w'' := updk_trans h k
theorem UpdR.fin {w0 w w' : World} (h : Upd0 w0 w) (k : UpdR w0.heap.size w w') : Upd0 w0 w' := Upd.trans h k fun n hn hs => by have := hs.1; omega
theorem RoIs.to {S : Nat → Prop} {w w' : World} {t : Nat} {v : Value} {s : Tb} {M : List TkR} (h : RoIs B w t v s M) (k : Upd S w w') (hS : ∀ b, S b → kindR w.heap[b]? = false) : RoIs B w' t v s M := by
  have hno : ∀ b, kindR w.heap[b]? = true → ¬ S b := fun b hb hs => by rw [hS b hs] at hb; cases hb
  refine ⟨k.block (hno t (by rw [h.blk]; rfl)) h.blk, ownsRow_upd h.row k fun g hg => hno g ?_, h.abs, fun m hm => ownsRow_upd (h.tsk m hm) k fun g hg => hno g ?_, h.dv, h.lo⟩
  · obtain ⟨cur, hc⟩ := kind_row h.row hg
    rw [hc]; rfl
  · obtain ⟨cur, hc⟩ := kind_row (h.tsk m hm) hg
    rw [hc]; rfl
theorem RoIs.to0 {w w' : World} {t : Nat} {v : Value} {s : Tb} {M : List TkR} (h : RoIs B w t v s M) (k : Upd0 w w') : RoIs B w' t v s M := h.to k (fun _ h => h.elim)
theorem Ro.to {S : Nat → Prop} {w w' : World} {t : Nat} {s : Tb} (h : Ro B w t s) (k : Upd S w w') (hS : ∀ b, S b → kindR w.heap[b]? = false) : Ro B w' t s := by
  obtain ⟨h1, v, M, h2⟩ := h
  exact ⟨h1, v, M, h2.to k hS⟩
theorem kind_pr {o : Option Obj} (h : kindP o = true) : kindR o = false := by
  cases o with
  | none => cases h
  | some o =>
    cases o <;> simp [kindP, kindR] at h ⊢
    rcases h with (h | h) | h <;> subst h <;> decide
theorem kind_rp {o : Option Obj} (h : kindR o = true) : kindP o = false := by
  cases e : kindP o
  · rfl
  · rw [kind_pr e] at h; cases h
theorem Ro.toP {w w' : World} {t : Nat} {s : Tb} (h : Ro B w t s) (k : UpdP B w w') : Ro B w' t s := h.to k fun _ hb => kind_pr hb.2
theorem Co.toR {w w' : World} {t : Nat} {s : Tb} (h : Co B w t s) (k : UpdR B w w') : Co B w' t s := h.to k fun _ hb => kind_rp hb.2
theorem Ro.to0 {w w' : World} {t : Nat} {s : Tb} (h : Ro B w t s) (k : Upd0 w w') : Ro B w' t s := h.to k (fun _ h => h.elim)
theorem RoIs.new {w wr X w6 : World} {t : Nat} {v v' : Value} {s : Tb} {M : List TkR} (h : RoIs B w t v s M) (hs : s.ok) (hu : Upd0 w wr) {F : Bs} {ty : Int} {c : Cl} {ot : Obj}
    (hu6 : Upd (fun k => v.ownBlock = some k) X w6)
    (h1 : X.heap = (((wr.setCell ⟨t, 2, none⟩ (.int .i64 (s.last + 1))).alloc (.cells c.cells.toArray 36 (0, 0))).alloc ot).heap) (h2 : X.os = wr.os) (h3 : X.tape = wr.tape) (h4 : X.output = wr.output) (hf : Fresh X v v')
    (hr : w6.ownsRow 0 89 4 v' (M.length + 1) (rks M ++ [.int .i64 (s.last + 1), .string ⟨F.toArray⟩, .int .i64 ty, .slice (some ⟨wr.heap.size, 0, none⟩) 1 1])) :
    RoIs B (w6.setCell ⟨t, 3, none⟩ v') t v' { s with last := s.last + 1, L := s.L ++ [⟨s.last + 1, F, ty, [c]⟩] } (M ++ [⟨⟨s.last + 1, F, ty, [c]⟩, .slice (some ⟨wr.heap.size, 0, none⟩) 1 1⟩]) ∧ UpdR B w (w6.setCell ⟨t, 3, none⟩ v') := by
  have hz := hu.size
  have hl : X.heap.size = wr.heap.size + 2 := by rw [h1]; simp
  have ht := blk_lt h.blk
  have hvt : v.ownBlock ≠ some t := fun e => row_ne h.row h.blk e
  have hX : Upd (fun b => b = t) w X := ⟨h2.trans hu.os, h3.trans hu.tape, h4.trans hu.output, by omega, fun n hn hs => by
    rw [h1, Below.heap_alloc _ _ n (by simp; omega), Below.heap_alloc _ _ n (by simp; omega), blk_set_other hs, hu.keep n hn (fun h => h)]⟩
  have hU : Upd (fun b => b = t ∨ v.ownBlock = some b) w (w6.setCell ⟨t, 3, none⟩ v') := Upd.setCell ((hX.mono (fun _ _ h => .inl h)).trans hu6 (fun _ _ h => .inr h)) (fun _ => .inl rfl) _
  have hbX : X.heap[t]? = some (.cells #[.int .i64 s.room, .int .i64 s.most, .int .i64 (s.last + 1), v] 31 (0, 0)) := by
    rw [h1]
    exact blk_alloc (blk_alloc (by simpa using blk_set (hu.block (fun h => h) h.blk) 2 (.int .i64 (s.last + 1))))
  have hv't : v'.ownBlock ≠ some t := fun e => by
    rcases hf t e with e | e
    · exact hvt e
    · omega
  have hset : Upd (fun n => n = t) w6 (w6.setCell ⟨t, 3, none⟩ v') := (Upd.refl (fun n => n = t) w6).setCell (p := ⟨t, 3, none⟩) (fun _ => rfl) _
  have hcb : (w6.setCell ⟨t, 3, none⟩ v').heap[wr.heap.size]? = some (.cells c.cells.toArray 36 (0, 0)) := by
    rw [blk_set_other (by omega)]
    refine hu6.block (fun e => ?_) (by rw [h1]; exact blk_alloc (alloc_last _ _ _ (by simp)))
    have := ownsRow_lt h.row e
    omega
  have hold : ∀ m ∈ M, ∀ b, m.v.ownBlock = some b → ¬ (b = t ∨ v.ownBlock = some b) := fun m hm b hb => by
    rintro (e | e)
    · exact row_ne (h.tsk m hm) h.blk (by rw [hb, e])
    · obtain ⟨cur, hc⟩ := kind_row h.row e
      exact row_ne (h.tsk m hm) hc hb
  have hBt := h.lo.1
  have hB' : ∀ b, v'.ownBlock = some b → B ≤ b := fun b hb => by
    rcases hf b hb with e | e
    · exact h.lo.2.1 b e
    · omega
  refine ⟨⟨?_, ?_, by simp [h.abs], fun m hm => ?_, ?_, h.lo.1, hB', fun m hm => ?_⟩, hU.mono fun n hn hs => ?_⟩
  · simpa using blk_set (hu6.block (fun e => hvt e) hbX) 3 v'
  · have := ownsRow_upd hr hset (fun g hg e => hv't (by rw [hg, e]))
    simpa [rks, TkR.cells] using this
  · rcases List.mem_append.1 hm with hm | hm
    · exact ownsRow_upd (h.tsk m hm) hU (hold m hm)
    · rw [List.mem_singleton.1 hm]
      exact ownsRow_mk hcb (by omega) (by simp [maxLen]) rfl (by simp [cls_one, Cl.cells])
  · rw [List.pairwise_append]
    refine ⟨h.dv, List.pairwise_singleton _ _, fun a ha b hb k hk hk' => ?_⟩
    rw [List.mem_singleton.1 hb] at hk'
    simp [Value.ownBlock] at hk'
    have := ownsRow_lt (h.tsk a ha) hk
    omega
  · rcases List.mem_append.1 hm with hm | hm
    · exact h.lo.2.2 m hm
    · rw [List.mem_singleton.1 hm]
      intro b hb
      simp [Value.ownBlock] at hb
      omega
  · rcases hs with rfl | hs
    · exact ⟨hBt, by rw [h.blk]; rfl⟩
    · obtain ⟨cur, hc⟩ := kind_row h.row hs
      exact ⟨h.lo.2.1 n hs, by rw [hc]; rfl⟩
theorem rask_bad1 (p : Value) (q : Bs) (ty : Int) (c : Cl) (hq : q.length ≤ maxLen) (hb : cutB q = false) (w : World) :
    Calls Try.prog 19 #[p, .agg #[.string ⟨q.toArray⟩, .int .i64 ty], c.val] w (Rets fun r w' => r = .tuple #[.int .i64 0, .bool false, .int .i64 1] ∧ Upd0 w w') := by
  have hc := Lib.hid (show checkC q = 1 by rw [checkC, hb]; rfl)
  obtain ⟨node, id, nm⟩ := c
  simp only [Cl.val]
  go_enter Try.func19, Try.ntmps19
  go_wp2_with (first
    | (go_at_call 42; (with_reducible refine (rcheck_any q hq _).use ?_); rintro v w1 ⟨rfl, hu1⟩; rw [hc.out])
    | (with_reducible refine wp_serial (by kernel_rfl) (by kernel_rfl) (by (repeat (first | (with_reducible apply NoBad.then) | (with_reducible apply NoBad.inBlock) | (with_reducible exact NoBad.rets))); done) ?_) | fail)
  all_goals go_returns
  all_goals exact ⟨rfl, (by (repeat (first | (with_reducible exact Upd.refl _ _) | (with_reducible assumption) | (with_reducible apply Upd.drew) | (with_reducible apply Upd.alloc) | (refine Upd0.tr ?_ (by with_reducible assumption)) | (refine Upd.setCell ?_ (fun h => absurd h (by first | exact Nat.lt_irrefl _ | (simp only []; omega))) _))); done)⟩
theorem rask_bad2 (p : Value) (q : Bs) (ty : Int) (c : Cl) (hq : q.length ≤ maxLen) (hn : c.nm.length ≤ maxLen) (hb : cutB q = true) (hb2 : cutB c.nm = false) (w : World) :
    Calls Try.prog 19 #[p, .agg #[.string ⟨q.toArray⟩, .int .i64 ty], c.val] w (Rets fun r w' => r = .tuple #[.int .i64 0, .bool false, .int .i64 1] ∧ Upd0 w w') := by
  have hc := Lib.hid (show checkC q = 0 by rw [checkC, hb]; rfl)
  have hc2 := Lib.hid (show checkC c.nm = 1 by rw [checkC, hb2]; rfl)
  obtain ⟨node, id, nm⟩ := c
  have tk0 : True := trivial
  simp only [Cl.val] at hn hc2 ⊢
  go_enter Try.func19, Try.ntmps19
  go_wp2_with (first
    | (go_at_call 42; have _t := tk0; (with_reducible refine (rcheck_any q hq _).use ?_); rintro v w1 ⟨rfl, hu1⟩; rw [hc.out]; obtain ⟨d0, d1, d2, d3⟩ := cell3 (hu1.block (fun h => h) (alloc_last _ _ (w.heap.size + 1) (by simp))); clear tk0 _t)
    | (go_at_call 42; (with_reducible refine (rcheck_any nm hn _).use ?_); rintro v w2 ⟨rfl, hu2⟩; rw [hc2.out])
    | (with_reducible refine wp_serial (by kernel_rfl) (by kernel_rfl) (by (repeat (first | (with_reducible apply NoBad.then) | (with_reducible apply NoBad.inBlock) | (with_reducible exact NoBad.rets))); done) ?_) | fail)
  all_goals go_returns
  all_goals exact ⟨rfl, (by (repeat (first | (with_reducible exact Upd.refl _ _) | (with_reducible assumption) | (with_reducible apply Upd.drew) | (with_reducible apply Upd.alloc) | (refine Upd0.tr ?_ (by with_reducible assumption)) | (refine Upd.setCell ?_ (fun h => absurd h (by first | exact Nat.lt_irrefl _ | (simp only []; omega))) _))); done)⟩
set_option maxRecDepth 100000 in
set_option maxHeartbeats 2000000 in
theorem rask_miss (t : Nat) (v : Value) (s : Tb) (M : List TkR) (q : Bs) (ty : Int) (c : Cl) (hq : q.length ≤ 70000) (hn : c.nm.length ≤ maxLen) (w : World) (h : RoIs B w t v s M) (hs : s.ok) (hl : s.last ≤ 1000000) (hok : okQ q c = true) (hk : lookK (fold q) ty s.L = none) :
    Calls Try.prog 19 #[.pointer (some ⟨t, 0, none⟩), .agg #[.string ⟨q.toArray⟩, .int .i64 ty], c.val] w (Rets fun r w' =>
      (s.room ≤ s.L.length ∧ r = .tuple #[.int .i64 0, .bool false, .int .i64 4] ∧ Upd0 w w') ∨
      ((s.L.length : Int) < s.room ∧ r = .tuple #[.int .i64 (s.last + 1 : Nat), .bool true, .int .i64 0] ∧ UpdR B w w' ∧ Ro B w' t { s with last := s.last + 1, L := s.L ++ [⟨s.last + 1, fold q, ty, [c]⟩] })) := by
  have hqm : q.length ≤ maxLen := by unfold maxLen; omega
  have hb1 : cutB q = true := by simp [okQ] at hok; exact hok.1
  have hb2 : cutB c.nm = true := by simp [okQ] at hok; exact hok.2
  have hc1 := Lib.hid (show checkC q = 0 by rw [checkC, hb1]; rfl)
  have hc2 := Lib.hid (show checkC c.nm = 0 by rw [checkC, hb2]; rfl)
  obtain ⟨F, hF⟩ : ∃ F, fold q = F := ⟨_, rfl⟩
  rw [hF] at hk ⊢
  have hFh := Lib.hid hF
  have hlen : M.length = s.L.length := by rw [← h.abs]; simp
  have hM100 : M.length ≤ 100 := by have := hs.len; have := hs.r2; omega
  have hlenh := Lib.hid hlen
  have hmiss := Lib.hid (show ∀ (j : Nat) m, M[j]? = some m → hitK F ty m.k = false from fun j m hm => lookK_none hk _ (by rw [← h.abs]; exact List.mem_map_of_mem (mem_get hm)))
  obtain ⟨i1, z1, hi1, hx0, hx3, hx1, hx2⟩ := info_rtk'
  obtain ⟨ao, cap, rfl⟩ := ownsRow_slice h.row
  have hh := Lib.hid h
  have hblk := Lib.hid h.blk
  have ht := blk_lt h.blk
  have tk0 : True := trivial
  obtain ⟨node, id, nm⟩ := c
  simp only [Cl.val] at hb2 hc2 hn ⊢
  clear h hF hlen hok
  go_enter Try.func19, Try.ntmps19
  go_upto_region 3 with (first
    | (go_at_call 42; have _t := tk0; (with_reducible refine (rcheck_any q hqm _).use ?_); rintro v w1 ⟨rfl, hu1⟩; rw [hc1.out]; have z0 := Lib.hid (hu1.block (fun h => h) (blk_alloc (alloc_last w _ w.heap.size rfl))); have z1 := Lib.hid (hu1.block (fun h => h) (alloc_last _ _ (w.heap.size + 1) (by simp))); obtain ⟨d0, d1, d2, d3⟩ := cell3 z1.out; have y1 : w.heap.size + 2 ≤ w1.heap.size := (by have := hu1.size; simpa using this); clear tk0 _t)
    | (go_at_call 42; (with_reducible refine (rcheck_any nm hn _).use ?_); rintro v w2 ⟨rfl, hu2⟩; rw [hc2.out]; have x0 := Lib.hid (hu2.block (fun h => h) z0.out); have x1 := Lib.hid (hu2.block (fun h => h) z1.out); obtain ⟨e0, e1, e2⟩ := cell2 x0.out; have y2 := hu2.size)
    | (with_reducible refine wp_serial (by kernel_rfl) (by kernel_rfl) (by (repeat (first | (with_reducible apply NoBad.then) | (with_reducible apply NoBad.inBlock) | (with_reducible exact NoBad.rets))); done) ?_) | fail)
  go_cut [9] from 21 (fun p wx => ∃ bx, p = .pointer (some ⟨bx, 0, none⟩) ∧ w.heap.size + 2 ≤ bx ∧ Upd0 w wx ∧ Hid (wx.heap[w.heap.size + 1]? = some (.cells #[.int .i64 node, .int .i64 id, .string ⟨nm.toArray⟩] 36 (0, 0))) ∧ Hid (wx.heap[bx]? = some (.cells #[.string ⟨F.toArray⟩, .int .i64 ty] 34 (0, 0))))
  case first =>
    go_wp2_with (first
      | (with_reducible refine wp_serial6 0 [] 6 2 [0, 1, 3, 4, 6] [5, 7] [0, 1, 3, 4] [5, 6, 7] [_, _, _, _, _] _ [_, _] [_, _, _, _] [_, _, _] (by kernel_rfl) (by decide +kernel) rfl rfl rfl rfl rfl ⟨Nat.zero_le _, fun s hs => absurd hs List.not_mem_nil⟩ (by (repeat (first | (with_reducible apply NoBad.then) | (with_reducible apply NoBad.inBlock) | (with_reducible exact NoBad.rets))); done) ?_ ?_)
      | (go_at_call 26; (with_reducible refine (rfold_w q hq _).use ?_); rintro v w3 ⟨rfl, hu3⟩; rw [hFh.out]; obtain ⟨f0, f1, f2⟩ := cell2 (hu3.block (fun h => h) (alloc_at (w := w2) _ rfl rfl)))
      | (go_at_call 26; (with_reducible refine (rfold_w q hq _).use ?_); rintro v w3 ⟨rfl, hu3⟩; rw [hFh.out])
      | (refine And.intro hu3.ext ?_)
      | fail)
    all_goals go_meet
    · exact ⟨_, rfl, by omega, (by (repeat (first | (with_reducible exact Upd.refl _ _) | (with_reducible assumption) | (with_reducible apply Upd.drew) | (with_reducible apply Upd.alloc) | (refine Upd0.tr ?_ (by with_reducible assumption)) | (refine Upd.setCell ?_ (fun h => absurd h (by first | exact Nat.lt_irrefl _ | (simp only []; omega))) _))); done), Lib.hid ((blk_set_other (by omega) _ _).trans ((blk_set_other (by omega) _ _).trans (hu3.block (fun h => h) (blk_alloc x1.out)))), Lib.hid (by simpa using blk_set (blk_set (hu3.block (fun h => h) (alloc_at (w := w2) _ rfl rfl)) 0 (.string ⟨F.toArray⟩)) 1 (.int .i64 ty))⟩
    · have y3 : w2.heap.size ≤ w3.heap.size := hu3.size
      exact ⟨_, rfl, by omega, (by (repeat (first | (with_reducible exact Upd.refl _ _) | (with_reducible assumption) | (with_reducible apply Upd.drew) | (with_reducible apply Upd.alloc) | (refine Upd0.tr ?_ (by with_reducible assumption)) | (refine Upd.setCell ?_ (fun h => absurd h (by first | exact Nat.lt_irrefl _ | (simp only []; omega))) _))); done), Lib.hid (blk_alloc (hu3.block (fun h => h) x1.out)), Lib.hid (alloc_last _ _ _ rfl)⟩
  case rest =>
    obtain ⟨bx, rfl, hbx, hu0, b1, bb⟩ := hcut
    go_wp2_with (first | (with_reducible refine wp_serial (by kernel_rfl) (by kernel_rfl) (by (repeat (first | (with_reducible apply NoBad.then) | (with_reducible apply NoBad.inBlock) | (with_reducible exact NoBad.rets))); done) ?_) | fail)
    go_loopw [10] (fun i wr => ∃ j : Nat, j ≤ M.length ∧ i = .int .i64 j ∧ Upd0 w wr ∧ w.heap.size + 2 ≤ wr.heap.size ∧ Hid (wr.heap[w.heap.size + 1]? = some (.cells #[.int .i64 node, .int .i64 id, .string ⟨nm.toArray⟩] 36 (0, 0))) ∧ Hid (wr.heap[bx]? = some (.cells #[.string ⟨F.toArray⟩, .int .i64 ty] 34 (0, 0)))) (fun i _ => M.length - (intOf i).toNat)
    case atStart => exact ⟨0, Nat.zero_le _, rfl, hu0, by have := blk_lt b1.out; omega, b1, bb⟩
    case round =>
      obtain ⟨j, hj, rfl, hu, hsz, r1, rb⟩ := hrel
      clear b1 bb hu0
      have hR := Lib.hid (hh.out.to0 hu)
      have hb := hR.out.blk
      obtain ⟨c0, c1, c2, c3, c4⟩ := cell4 hb
      obtain ⟨q0, q1, q2⟩ := cell2 rb.out
      obtain ⟨p0, p1, p2, p3⟩ := cell3 r1.out
      by_cases hlt : j < M.length
      · obtain ⟨g, rfl⟩ := ownsRow_some hR.out.row (by omega)
        obtain ⟨m, hm⟩ : ∃ m, M[j]? = some m := ⟨M[j], List.getElem?_eq_getElem hlt⟩
        have e0 := elem_cell rk_len hR.out.row hm 0 _ (by omega) rfl
        have e1 := elem_cell rk_len hR.out.row hm 1 _ (by omega) rfl
        have e2 := elem_cell rk_len hR.out.row hm 2 _ (by omega) rfl
        have hn0 := hmiss.out j m hm
        have hd : ¬ m.k.q = F ∨ (m.k.q = F ∧ ¬ m.k.ty = ty) := by
          by_cases e1 : m.k.q = F
          · exact .inr ⟨e1, fun e2 => by rw [hitK_iff.2 ⟨e1, e2⟩] at hn0; cases hn0⟩
          · exact .inl e1
        clear hn0 hb hm
        rcases hd with f1 | ⟨f1, f2⟩
        all_goals
          go_wp2_with (first | (with_reducible refine wp_serial (by kernel_rfl) (by kernel_rfl) (by (repeat (first | (with_reducible apply NoBad.then) | (with_reducible apply NoBad.inBlock) | (with_reducible exact NoBad.rets))); done) ?_) | fail)
          go_roundw
          case rel => exact ⟨j + 1, by omega, by go_num, (by (repeat (first | (with_reducible exact Upd.refl _ _) | (with_reducible assumption) | (with_reducible apply Upd.drew) | (with_reducible apply Upd.alloc) | (refine Upd0.tr ?_ (by with_reducible assumption)) | (refine Upd.setCell ?_ (fun h => absurd h (by first | exact Nat.lt_irrefl _ | (simp only []; omega))) _))); done), hsz, r1, rb⟩
          case measure => simp [intOf]; omega
      · have hje : j = M.length := by omega
        subst hje
        have hrow0 := Lib.hid (show (wr.setCell ⟨t, 2, none⟩ (.int .i64 (s.last + 1))).ownsRow 0 89 4 (.slice ao M.length cap) M.length (rks M) from
          ownsRow_upd hR.out.row ((Upd.refl (fun b => b = t) wr).setCell (p := ⟨t, 2, none⟩) (fun _ => rfl) _) (fun g hg e => row_ne hR.out.row hR.out.blk (by rw [hg, e])))
        have htb := Lib.hid (show (wr.setCell ⟨t, 2, none⟩ (.int .i64 (s.last + 1))).heap[t]? = some (.cells #[.int .i64 s.room, .int .i64 s.most, .int .i64 (s.last + 1), .slice ao M.length cap] 31 (0, 0)) from by simpa using blk_set hb 2 (.int .i64 (s.last + 1)))
        clear hb
        go_wp2_with (first
          | (at_builtin; (refine wpList_app (w := wr.setCell ⟨t, 2, none⟩ (.int .i64 (s.last + 1))) (by (repeat (first | exact Ext.refl _ | assumption | apply Ext.drew | apply Ext.alloc)); done) rfl (.tmp 107) (.tmp 116) 29 rfl 89 i1 _ 4 56 Try.underlying29 hi1 hx0 hx1 hx2 hx3 (by decide) _ _ _ hrow0.out rfl _ _ _ [.int .i64 (s.last + 1), .string ⟨F.toArray⟩, .int .i64 ty, .slice (some ⟨wr.heap.size, 0, none⟩) 1 1] rfl rfl (alloc_last _ _ _ (by simp)) rfl (by omega) (by omega) ?_; intro ao' cap' w6 hr6 hu6 hf6; obtain ⟨x0, x1, x2, x3, x4⟩ := cell4 (hu6.block (fun h => row_ne hrow0.out htb.out h) (ext_block (w := wr.setCell ⟨t, 2, none⟩ (.int .i64 (s.last + 1))) (by (repeat (first | exact Ext.refl _ | assumption | apply Ext.drew | apply Ext.alloc)); done) htb.out)); have hr6h := Lib.hid hr6; have hu6h := Lib.hid hu6; have hf6h := Lib.hid hf6; clear hr6 hu6 hf6))
          | (with_reducible refine wp_serial (by kernel_rfl) (by kernel_rfl) (by (repeat (first | (with_reducible apply NoBad.then) | (with_reducible apply NoBad.inBlock) | (with_reducible exact NoBad.rets))); done) ?_) | fail)
        · go_returns
          exact .inl ⟨by have : s.room ≤ (M.length : Int) := by assumption
                         have := hlenh.out; omega, rfl, (by (repeat (first | (with_reducible exact Upd.refl _ _) | (with_reducible assumption) | (with_reducible apply Upd.drew) | (with_reducible apply Upd.alloc) | (refine Upd0.tr ?_ (by with_reducible assumption)) | (refine Upd.setCell ?_ (fun h => absurd h (by first | exact Nat.lt_irrefl _ | (simp only []; omega))) _))); done)⟩
        · have hlt : (s.L.length : Int) < s.room := by
            have : (M.length : Int) < s.room := by assumption
            have := hlenh.out; omega
          go_returns
          obtain ⟨a1, a2⟩ := hh.out.new (v' := .slice ao' (M.length + 1) cap') hs hu (F := F) (ty := ty) (c := ⟨node, id, nm⟩) hu6h.out rfl rfl rfl rfl hf6h.out hr6h.out
          first | exact .inr ⟨hlt, rfl, a2, hs.new hk hlt, _, _, a1⟩ | exact .inr ⟨by omega, rfl, a2, hs.new hk hlt, _, _, a1⟩
end Go.Proofs.Ytebnilkcpklnmaa
