/-
  The program's tables in memory; what Ask, Done, Waits and Len make of them.
-/
import Derived.Test.YtebnilkcpklnmaaFlD
import Derived.Test.YtebnilkcpklnmaaCoM
import Derived.Test.YtebnilkcpklnmaaCoP
import Derived.Test.YtebnilkcpklnmaaSer3
namespace Go.Proofs.Ytebnilkcpklnmaa
open Go.RowKit Go.Maps
set_option linter.unusedSimpArgs false
set_option linter.unusedVariables false
variable {B : Nat}
def Cl.cells (c : Cl) : List Value := [.int .i64 c.node, .int .i64 c.id, .string ⟨c.nm.toArray⟩]
def Cl.val (c : Cl) : Value := .agg #[.int .i64 c.node, .int .i64 c.id, .string ⟨c.nm.toArray⟩]
def cls (l : List Cl) : List Value := l.flatMap Cl.cells
theorem cls_app (l m : List Cl) : cls (l ++ m) = cls l ++ cls m := by simp [cls]
theorem cls_one (c : Cl) : cls [c] = c.cells := by simp [cls]
theorem info_cl : (Try.prog.info? 42).map (fun i => (i.zero, i.size, i.bytes)) = some (some (.agg #[.int .i64 0, .int .i64 0, .string .empty]), 3, 32) := by kernel_rfl
/-- a task in memory: its block, its clients' slice -/
structure TkM where
  k : Tk
  g : Nat
  v : Value
def TkM.ids (m : TkM) : Nat × Nat := (m.k.num, m.g)
structure TskIs (w : World) (m : TkM) : Prop where
  blk : w.heap[m.g]? = some (.cells #[.string ⟨m.k.q.toArray⟩, .int .i64 m.k.ty, m.v] 87 (0, 0))
  row : w.ownsRow 0 42 3 m.v m.k.cs.length (cls m.k.cs)
structure CoIs (B : Nat) (w : World) (t bm : Nat) (s : Tb) (M : List TkM) : Prop where
  blk : w.heap[t]? = some (.cells #[.int .i64 s.room, .int .i64 s.most, .int .i64 s.last, .map (some bm)] 83 (0, 0))
  own : OwnsM Try.prog 3 w bm (M.map TkM.ids)
  abs : M.map (·.k) = s.L
  tsk : ∀ m ∈ M, TskIs w m
  dg : M.Pairwise fun a b => a.g ≠ b.g
  dv : M.Pairwise fun a b => ∀ k, a.v.ownBlock = some k → b.v.ownBlock ≠ some k
  lo : B ≤ t ∧ B ≤ bm ∧ ∀ m ∈ M, B ≤ m.g ∧ ∀ b, m.v.ownBlock = some b → B ≤ b
def Co (B : Nat) (w : World) (t : Nat) (s : Tb) : Prop := s.ok ∧ ∃ bm M, CoIs B w t bm s M
/-- the blocks that a table of the program may lie in -/
def kindP : Option Obj → Bool
  | some (.cells _ t _) => decide (t = 83) || decide (t = 87) || decide (t = 42)
  | some (.map _ _) => true
  | _ => false
def UpdP (B : Nat) (w w' : World) : Prop := Upd (fun b => B ≤ b ∧ kindP w.heap[b]? = true) w w'
theorem UpdP.of0 {w w' : World} (h : Upd0 w w') : UpdP B w w' := h.mono (fun _ _ h => h.elim)
theorem updk_trans {kd : Option Obj → Bool} {w w' w'' : World} (h : Upd (fun b => B ≤ b ∧ kd w.heap[b]? = true) w w') (k : Upd (fun b => B ≤ b ∧ kd w'.heap[b]? = true) w' w'') : Upd (fun b => B ≤ b ∧ kd w.heap[b]? = true) w w'' := by
  refine Upd.trans h k fun n hn hs => ?_
  by_cases he : kd w.heap[n]? = true
  · exact ⟨hs.1, he⟩
  · have := h.keep n hn (fun h => he h.2)
    rw [this] at hs
    exact hs
theorem UpdP.fin {w0 w w' : World} (h : Upd0 w0 w) (k : UpdP w0.heap.size w w') : Upd0 w0 w' := Upd.trans h k fun n hn hs => by have := hs.1; omega
theorem UpdP.tr {w w' w'' : World} (h : UpdP B w w') (k : UpdP B w' w'') : UpdP B w w'' := updk_trans h k
theorem TskIs.to {S : Nat → Prop} {w w' : World} {m : TkM} (h : TskIs w m) (k : Upd S w w') (h1 : ¬ S m.g) (h2 : ∀ g, m.v.ownBlock = some g → ¬ S g) : TskIs w' m := ⟨k.block h1 h.blk, ownsRow_upd h.row k h2⟩
theorem kind_row {w : World} {e : TypeId} {s : Nat} {v : Value} {n : Nat} {xs : List Value} (h : w.ownsRow 0 e s v n xs) {g : Nat} (hg : v.ownBlock = some g) : ∃ cur, w.heap[g]? = some (.cells cur e (0, 0)) := by
  rcases h.2 with ⟨rfl, _⟩ | ⟨g', cap, cur, rfl, _, hgg, _⟩
  · cases hg
  · simp [Value.ownBlock] at hg
    subst hg
    exact ⟨cur, hgg⟩
theorem CoIs.to {S : Nat → Prop} {w w' : World} {t bm : Nat} {s : Tb} {M : List TkM} (h : CoIs B w t bm s M) (k : Upd S w w') (hS : ∀ b, S b → kindP w.heap[b]? = false) : CoIs B w' t bm s M := by
  have hno : ∀ b, kindP w.heap[b]? = true → ¬ S b := fun b hb hs => by rw [hS b hs] at hb; cases hb
  refine ⟨k.block (hno t (by rw [h.blk]; rfl)) h.blk, h.own.to (k.keep bm h.own.lt (hno bm (by obtain ⟨es, c, he⟩ := h.own.blk; rw [he]; rfl))), h.abs, fun m hm => ?_, h.dg, h.dv, h.lo⟩
  have ht := h.tsk m hm
  refine ht.to k (hno m.g (by rw [ht.blk]; rfl)) fun g hg => hno g ?_
  obtain ⟨cur, hc⟩ := kind_row ht.row hg
  rw [hc]; rfl
theorem CoIs.to0 {w w' : World} {t bm : Nat} {s : Tb} {M : List TkM} (h : CoIs B w t bm s M) (k : Upd0 w w') : CoIs B w' t bm s M := h.to k (fun _ h => h.elim)
theorem Co.to {S : Nat → Prop} {w w' : World} {t : Nat} {s : Tb} (h : Co B w t s) (k : Upd S w w') (hS : ∀ b, S b → kindP w.heap[b]? = false) : Co B w' t s := by
  obtain ⟨h1, bm, M, h2⟩ := h
  exact ⟨h1, bm, M, h2.to k hS⟩
theorem Co.to0 {w w' : World} {t : Nat} {s : Tb} (h : Co B w t s) (k : Upd0 w w') : Co B w' t s := h.to k (fun _ h => h.elim)
theorem wfN {n : Int} (h0 : -1000000000 ≤ n) (h1 : n ≤ 1000000000) : (Lit.int .i64 n).wf = true := by
  have e1 : IntKind.i64.min = -9223372036854775808 := rfl
  have e2 : IntKind.i64.max = 9223372036854775807 := rfl
  simp only [Lit.wf, Bool.and_eq_true, decide_eq_true_eq, e1, e2]
  omega

theorem ask_bad1 (p : Value) (q : Bs) (ty : Int) (c : Cl) (hq : q.length ≤ maxLen) (hp : ∃ o, p = .pointer o) (hb : cutB q = false) (w : World) :
    Calls Try.prog 17 #[p, .agg #[.string ⟨q.toArray⟩, .int .i64 ty], c.val] w (Rets fun r w' => r = .tuple #[.int .i64 0, .bool false, .int .i64 1] ∧ Upd0 w w') := by
  have hc := Lib.hid (show checkC q = 1 by rw [checkC, hb]; rfl)
  obtain ⟨node, id, nm⟩ := c
  obtain ⟨o, rfl⟩ := hp
  simp only [Cl.val]
  cases o
  all_goals
    go_enter Try.func17, Try.ntmps17
    go_wp2_with (first
      | (go_at_call 40; (with_reducible refine (check_any q hq _).use ?_); rintro v w1 ⟨rfl, hu1⟩; rw [hc.out])
      | (with_reducible refine wp_serial (by kernel_rfl) (by kernel_rfl) (by (repeat (first | (with_reducible apply NoBad.then) | (with_reducible apply NoBad.inBlock) | (with_reducible exact NoBad.rets))); done) ?_) | fail)
    all_goals go_returns
    all_goals exact ⟨rfl, (by (repeat (first | (with_reducible exact Upd.refl _ _) | (with_reducible assumption) | (with_reducible apply Upd.drew) | (with_reducible apply Upd.alloc) | (refine Upd0.tr ?_ (by with_reducible assumption)) | (refine Upd.setCell ?_ (fun h => absurd h (by first | exact Nat.lt_irrefl _ | (simp only []; omega))) _))); done)⟩
theorem cell2 {w : World} {b : Nat} {a0 a1 : Value} {t : TypeId} (h : w.heap[b]? = some (.cells #[a0, a1] t (0, 0))) : w.cell? ⟨b, 0, none⟩ = some a0 ∧ w.cell? ⟨b, 1, none⟩ = some a1 ∧ ∀ i, w.frozen? ⟨b, i, none⟩ = false := ⟨by rw [blk_cell h]; rfl, by rw [blk_cell h]; rfl, fun i => blk_frz h i⟩
theorem cell3 {w : World} {b : Nat} {a0 a1 a2 : Value} {t : TypeId} (h : w.heap[b]? = some (.cells #[a0, a1, a2] t (0, 0))) : w.cell? ⟨b, 0, none⟩ = some a0 ∧ w.cell? ⟨b, 1, none⟩ = some a1 ∧ w.cell? ⟨b, 2, none⟩ = some a2 ∧ ∀ i, w.frozen? ⟨b, i, none⟩ = false := ⟨by rw [blk_cell h]; rfl, by rw [blk_cell h]; rfl, by rw [blk_cell h]; rfl, fun i => blk_frz h i⟩
theorem cell4 {w : World} {b : Nat} {a0 a1 a2 a3 : Value} {t : TypeId} (h : w.heap[b]? = some (.cells #[a0, a1, a2, a3] t (0, 0))) : w.cell? ⟨b, 0, none⟩ = some a0 ∧ w.cell? ⟨b, 1, none⟩ = some a1 ∧ w.cell? ⟨b, 2, none⟩ = some a2 ∧ w.cell? ⟨b, 3, none⟩ = some a3 ∧ ∀ i, w.frozen? ⟨b, i, none⟩ = false := ⟨by rw [blk_cell h]; rfl, by rw [blk_cell h]; rfl, by rw [blk_cell h]; rfl, by rw [blk_cell h]; rfl, fun i => blk_frz h i⟩
/-- a new task -/
theorem CoIs.new {w w' : World} {t bm : Nat} {s : Tb} {M : List TkM} (h : CoIs B w t bm s M) (hs : s.ok) (hu : UpdP B w w') {F : Bs} {ty : Int} {c : Cl} {g : Nat} {ao : Option Addr} {cap : Nat}
    (hb : w'.heap[t]? = some (.cells #[.int .i64 s.room, .int .i64 s.most, .int .i64 (s.last + 1 : Nat), .map (some bm)] 83 (0, 0)))
    (ho : OwnsM Try.prog 3 w' bm (M.map TkM.ids ++ [(s.last + 1, g)]))
    (hg : w'.heap[g]? = some (.cells #[.string ⟨F.toArray⟩, .int .i64 ty, .slice ao 1 cap] 87 (0, 0)))
    (hr : w'.ownsRow 0 42 3 (.slice ao 1 cap) 1 c.cells) (hm : ∀ m ∈ M, w'.heap[m.g]? = w.heap[m.g]? ∧ ∀ k, m.v.ownBlock = some k → w'.heap[k]? = w.heap[k]?) (hgn : w.heap.size ≤ g) (hvn : ∀ k, (Value.slice ao 1 cap).ownBlock = some k → w.heap.size ≤ k) :
    CoIs B w' t bm { s with last := s.last + 1, L := s.L ++ [⟨s.last + 1, F, ty, [c]⟩] } (M ++ [⟨⟨s.last + 1, F, ty, [c]⟩, g, .slice ao 1 cap⟩]) := by
  have hBt := h.lo.1
  have htl := blk_lt h.blk
  refine ⟨hb, by simpa [TkM.ids] using ho, by simp [h.abs], fun m hmm => ?_, ?_, ?_, h.lo.1, h.lo.2.1, fun m hmm => ?_⟩
  · rcases List.mem_append.1 hmm with hmm | hmm
    · have ht := h.tsk m hmm
      obtain ⟨e1, e2⟩ := hm m hmm
      refine ⟨e1.trans ht.blk, ht.row.1, ?_⟩
      rcases ht.row.2 with hh | ⟨g', cap', cur, he, hb', hgg, r⟩
      · exact .inl hh
      · exact .inr ⟨g', cap', cur, he, hb', (e2 g' (by rw [he]; rfl)).trans hgg, r⟩
    · rw [List.mem_singleton.1 hmm]
      exact ⟨hg, by simpa [cls_one] using hr⟩
  · rw [List.pairwise_append]
    refine ⟨h.dg, List.pairwise_singleton _ _, fun a ha b hb => ?_⟩
    rw [List.mem_singleton.1 hb]
    have := blk_lt (h.tsk a ha).blk
    simp only [ne_eq]; omega
  · rw [List.pairwise_append]
    refine ⟨h.dv, List.pairwise_singleton _ _, fun a ha b hb k hk hk' => ?_⟩
    rw [List.mem_singleton.1 hb] at hk'
    have h1 := ownsRow_lt (h.tsk a ha).row hk
    have h2 := hvn k hk'
    omega
  · rcases List.mem_append.1 hmm with hmm | hmm
    · exact h.lo.2.2 m hmm
    · rw [List.mem_singleton.1 hmm]
      exact ⟨by simp only []; omega, fun b hb => by have := hvn b hb; omega⟩
theorem upd_t (t : Nat) (w : World) (v : Value) (o1 o2 : Obj) : Upd (fun b => b = t) w (((w.setCell ⟨t, 2, none⟩ v).alloc o1).alloc o2) := (((Upd.refl (fun b => b = t) w).setCell (p := ⟨t, 2, none⟩) (fun _ => rfl) v).alloc o1).alloc o2
theorem new_facts {w wr X w6 : World} {t bm : Nat} {a0 a1 a2 a3 v : Value} {oc ot : Obj} (hturn : X.mapTurned w6 bm) (hu : Upd0 w wr) (hblk : w.heap[t]? = some (.cells #[a0, a1, a2, a3] 83 (0, 0))) (hb : wr.heap[t]? = some (.cells #[a0, a1, a2, a3] 83 (0, 0))) (hk : kindP w.heap[bm]? = true) (hBt : B ≤ t) (hBm : B ≤ bm)
    (h1 : X.heap = (((wr.setCell ⟨t, 2, none⟩ v).alloc oc).alloc ot).heap) (h2 : X.os = wr.os) (h3 : X.tape = wr.tape) (h4 : X.output = wr.output) :
    w6.heap[t]? = some (.cells #[a0, a1, v, a3] 83 (0, 0)) ∧ w6.heap[wr.heap.size]? = some oc ∧ w6.heap[wr.heap.size + 1]? = some ot ∧ UpdP B w w6 ∧ ∀ n, n < w.heap.size → n ≠ t → n ≠ bm → w6.heap[n]? = w.heap[n]? := by
  have hgr := hturn.grown
  have hl : X.heap.size = wr.heap.size + 2 := by rw [h1]; simp
  have hk1 : bm < w.heap.size := by
    rcases Nat.lt_or_ge bm w.heap.size with h | h
    · exact h
    · rw [Array.getElem?_eq_none h] at hk; cases hk
  have ht := blk_lt hblk
  have hz := hu.size
  have hne : t ≠ bm := by
    rintro rfl
    obtain ⟨es, cl, es', cl', he, _⟩ := hturn
    rw [h1, blk_alloc (blk_alloc (blk_set hb 2 v))] at he
    cases he
  have o6 : ∀ n, n < w.heap.size → n ≠ t → n ≠ bm → w6.heap[n]? = w.heap[n]? := fun n e1 e2 e3 => by
    rw [hgr.block n (by omega) (by simpa using e3), h1, Below.heap_alloc _ _ n (by simp; omega), Below.heap_alloc _ _ n (by simp; omega), blk_set_other e2, hu.keep n e1 (fun h => h)]
  refine ⟨?_, ?_, ?_, ⟨hgr.os.trans (h2.trans hu.os), hgr.tape.trans (h3.trans hu.tape), hgr.output.trans (h4.trans hu.output), by have := hgr.size; omega, fun n hn hs => o6 n hn (fun e => hs ⟨by rw [e]; exact hBt, by rw [e, hblk]; rfl⟩) (fun e => hs ⟨by rw [e]; exact hBm, by rw [e]; exact hk⟩)⟩, o6⟩
  · rw [hgr.block t (by omega) (by simpa using hne), h1]
    exact blk_alloc (blk_alloc (by simpa using blk_set hb 2 v))
  · rw [hgr.block _ (by omega) (by simp; omega), h1]
    exact blk_alloc (alloc_last _ _ _ (by simp))
  · rw [hgr.block _ (by omega) (by simp; omega), h1]
    exact alloc_last _ _ _ (by simp)
set_option maxRecDepth 100000 in
set_option maxHeartbeats 2000000 in
theorem ask_miss (t bm : Nat) (s : Tb) (M : List TkM) (q : Bs) (ty : Int) (c : Cl) (hq : q.length ≤ 70000) (hn : c.nm.length ≤ maxLen) (w : World) (h : CoIs B w t bm s M) (hs : s.ok) (hl : s.last ≤ 1000000) (hok : okQ q c = true) (hk : lookK (fold q) ty s.L = none) :
    Calls Try.prog 17 #[.pointer (some ⟨t, 0, none⟩), .agg #[.string ⟨q.toArray⟩, .int .i64 ty], c.val] w (Rets fun r w' =>
      (s.room ≤ s.L.length ∧ r = .tuple #[.int .i64 0, .bool false, .int .i64 4] ∧ Upd0 w w') ∨
      ((s.L.length : Int) < s.room ∧ r = .tuple #[.int .i64 (s.last + 1 : Nat), .bool true, .int .i64 0] ∧ UpdP B w w' ∧ Co B w' t { s with last := s.last + 1, L := s.L ++ [⟨s.last + 1, fold q, ty, [c]⟩] })) := by
  have hqm : q.length ≤ maxLen := by unfold maxLen; omega
  have hb1 : cutB q = true := by simp [okQ] at hok; exact hok.1
  have hb2 : cutB c.nm = true := by simp [okQ] at hok; exact hok.2
  have hc1 := Lib.hid (show checkC q = 0 by rw [checkC, hb1]; rfl)
  have hc2 := Lib.hid (show checkC c.nm = 0 by rw [checkC, hb2]; rfl)
  obtain ⟨F, hF⟩ : ∃ F, fold q = F := ⟨_, rfl⟩
  rw [hF] at hk ⊢
  have hFh := Lib.hid hF
  have hlen : M.length = s.L.length := by rw [← h.abs]; simp
  have hh := Lib.hid h
  have hlenh := Lib.hid hlen
  have hmiss := Lib.hid (show ∀ m ∈ M, hitK F ty m.k = false from fun m hm => lookK_none hk _ (by rw [← h.abs]; exact List.mem_map_of_mem hm))
  have hblk := Lib.hid h.blk
  have ht := blk_lt h.blk
  have hbm := h.own.lt
  have tk0 : True := trivial
  obtain ⟨node, id, nm⟩ := c
  simp only [Cl.val] at hb2 hc2 hn ⊢
  clear h hF hlen hok
  go_enter Try.func17, Try.ntmps17
  go_wp2_with (first
    | (go_at_call 40; have _t := tk0; (with_reducible refine (check_any q hqm _).use ?_); rintro v w1 ⟨rfl, hu1⟩; rw [hc1.out]; have z0 := Lib.hid (hu1.block (fun h => h) (blk_alloc (alloc_last w _ w.heap.size rfl))); have z1 := Lib.hid (hu1.block (fun h => h) (alloc_last _ _ (w.heap.size + 1) (by simp))); obtain ⟨d0, d1, d2, d3⟩ := cell3 z1.out; have y1 : w.heap.size + 2 ≤ w1.heap.size := (by have := hu1.size; simpa using this); clear tk0 _t)
    | (go_at_call 40; (with_reducible refine (check_any nm hn _).use ?_); rintro v w2 ⟨rfl, hu2⟩; rw [hc2.out]; have x0 := Lib.hid (hu2.block (fun h => h) z0.out); have x1 := Lib.hid (hu2.block (fun h => h) z1.out); obtain ⟨e0, e1, e2⟩ := cell2 x0.out; have y2 := hu2.size)
    | (go_at_call 41; (with_reducible refine (fold_w q hq _).use ?_); rintro v w3 ⟨rfl, hu3⟩; rw [hFh.out]; have v0 := Lib.hid (hu3.block (fun h => h) x0.out); have v1 := Lib.hid (hu3.block (fun h => h) x1.out); obtain ⟨f0, f1, f2⟩ := cell2 v0.out; have hu03 := Lib.hid (show Upd0 w w3 from (by (repeat (first | (with_reducible exact Upd.refl _ _) | (with_reducible assumption) | (with_reducible apply Upd.drew) | (with_reducible apply Upd.alloc) | (refine Upd0.tr ?_ (by with_reducible assumption)) | (refine Upd.setCell ?_ (fun h => absurd h (by first | exact Nat.lt_irrefl _ | (simp only []; omega))) _))); done)); obtain ⟨g0, g1, g2, g3, g4⟩ := cell4 (hu03.out.block (fun h => h) hblk.out); have y3 := hu3.size; have y03 := hu03.out.size)
    | (at_range; refine wpList_rangeM _ rfl _ 81 rfl 3 85 Try.underlying3 Try.underlying81 bm (M.map TkM.ids) rfl ((hh.out.to0 (Upd.setCell hu03.out (fun h => absurd h (by simp only []; omega)) _)).own) ?_; intro w4 r hr hrg hg4 hs4)
    | (with_reducible refine wp_serial (by kernel_rfl) (by kernel_rfl) (by (repeat (first | (with_reducible apply NoBad.then) | (with_reducible apply NoBad.inBlock) | (with_reducible exact NoBad.rets))); done) ?_) | fail)
  have hr2 : w.heap.size + 2 ≤ r := by simp at hr; omega
  have hu4 : Upd0 w w4 := (Upd.setCell hu03.out (fun h => absurd h (by simp only []; omega)) _).grown hg4 (fun _ h => by cases h)
  have k0 := Lib.hid (show w4.heap[w.heap.size]? = some (.cells #[.string ⟨F.toArray⟩, .int .i64 ty] 34 (0, 0)) from (hg4.block _ (by simp; omega) (by simp)).trans (by simpa using blk_set v0.out 0 (.string ⟨F.toArray⟩)))
  have k1 := Lib.hid (show w4.heap[w.heap.size + 1]? = some (.cells #[.int .i64 node, .int .i64 id, .string ⟨nm.toArray⟩] 42 (0, 0)) from (hg4.block _ (by simp; omega) (by simp)).trans ((blk_set_other (by omega) _ _).trans v1.out))
  have hrg := Lib.hid hrg
  have hs4' : w.heap.size + 2 ≤ w4.heap.size := by simp at hs4; omega
  clear hr hg4 hs4
  go_frame
  go_loopw [9, 10] (fun _ _ wr => ∃ left cnt, RangesM Try.prog 3 wr bm r (M.map TkM.ids) left cnt ∧ (∀ kl, left kl = true → Maps.has (dm (M.map TkM.ids)) kl = true) ∧ Upd0 w wr ∧ w.heap.size + 2 ≤ wr.heap.size ∧
    Hid (wr.heap[w.heap.size]? = some (.cells #[.string ⟨F.toArray⟩, .int .i64 ty] 34 (0, 0))) ∧ Hid (wr.heap[w.heap.size + 1]? = some (.cells #[.int .i64 node, .int .i64 id, .string ⟨nm.toArray⟩] 42 (0, 0)))) (fun _ _ wr => wr.rangeLeft bm r)
  case atStart => exact ⟨_, _, hrg.out, fun _ h => h, hu4, hs4', k0, k1⟩
  case round =>
    obtain ⟨left, cnt, hrg5, hlf, hu, hsz, b0, b1⟩ := hrel
    clear hrg hs4' hu4 k0 k1
    have hb := hu.block (fun h => h) hblk.out
    obtain ⟨c0, c1, c2, c3, c4⟩ := cell4 hb
    obtain ⟨q0, q1, q2⟩ := cell2 b0.out
    obtain ⟨p0, p1, p2, p3⟩ := cell3 b1.out
    go_wp2_with (first | (at_next; refine wpList_nextT M TkM.ids _ rfl _ rfl 3 Try.underlying3 bm r left cnt rfl hrg5 hlf ?_ ?_) | (with_reducible refine wp_serial (by kernel_rfl) (by kernel_rfl) (by (repeat (first | (with_reducible apply NoBad.then) | (with_reducible apply NoBad.inBlock) | (with_reducible exact NoBad.rets))); done) ?_) | fail)
    · intro _ _
      have hown := (hh.out.to0 hu).own
      have hbt : bm ≠ t := fun e => by obtain ⟨es, cl, he⟩ := hown.blk; rw [e, hb] at he; cases he
      have hml : (M.map TkM.ids).length < maxLen := by have := hs.len; have := hs.r2; simp [hlenh.out, maxLen]; omega
      have hMh := Lib.hid (show ∀ p ∈ M.map TkM.ids, p.1 < s.last + 1 from fun p hp => by
        obtain ⟨m, hm, rfl⟩ := List.mem_map.1 hp
        have := hs.num m.k (by rw [← hh.out.abs]; exact List.mem_map_of_mem hm)
        simp only [TkM.ids]; omega)
      have hkbm := Lib.hid (show kindP w.heap[bm]? = true from by obtain ⟨es, cl, he⟩ := hh.out.own.blk; rw [he]; rfl)
      go_wp2_with (first
        | (refine wpList_lenM _ rfl _ 81 rfl 3 85 Try.underlying81 bm (M.map TkM.ids) rfl hown (s.L.length) (by simp [hlenh.out]) ?_)
        | (at_mapUpdate; refine wpList_putM _ rfl _ _ _ 81 rfl 3 85 Try.underlying3 Try.underlying81 bm (M.map TkM.ids) rfl (OwnsM.to hown ((upd_t t wr _ _ _).keep bm hown.lt hbt)) hml (s.last + 1) (wr.heap.size + 1) _ rfl (by omega) (wfN (by omega) (by omega)) rfl hMh.out ?_; intro w6 hown6 hturn6; obtain ⟨t6, s6, r6, u6, o6⟩ := new_facts hturn6 hu hblk.out hb hkbm.out hh.out.lo.1 hh.out.lo.2.1 rfl rfl rfl rfl; have t6 := Lib.hid t6; have s6 := Lib.hid s6; have r6 := Lib.hid r6; have o6 := Lib.hid o6; have hw6 := Lib.hid hown6; obtain ⟨i0, i1, i2, i3, i4⟩ := cell4 t6.out; clear hown6 hturn6)
        | (with_reducible refine wp_serial3_1 0 [] [0, 1, 2, 3, 5, 6, 7, 8] 4 [9] [_, _, _, _, _, _, _, _] _ [_] (by kernel_rfl) (by decide +kernel) rfl rfl rfl ⟨Nat.zero_le _, fun s hs => absurd hs List.not_mem_nil⟩ (by (repeat (first | (with_reducible apply NoBad.then) | (with_reducible apply NoBad.inBlock) | (with_reducible exact NoBad.rets))); done) ?_)
        | (refine And.intro (Ext.refl _) ?_)
        | (with_reducible refine wp_serial (by kernel_rfl) (by kernel_rfl) (by (repeat (first | (with_reducible apply NoBad.then) | (with_reducible apply NoBad.inBlock) | (with_reducible exact NoBad.rets))); done) ?_) | fail)
      · go_returns
        exact .inl ⟨by assumption, rfl, (by (repeat (first | (with_reducible exact Upd.refl _ _) | (with_reducible assumption) | (with_reducible apply Upd.drew) | (with_reducible apply Upd.alloc) | (refine Upd0.tr ?_ (by with_reducible assumption)) | (refine Upd.setCell ?_ (fun h => absurd h (by first | exact Nat.lt_irrefl _ | (simp only []; omega))) _))); done)⟩
      · have hlt : (s.L.length : Int) < s.room := by assumption
        go_returns
        refine .inr ⟨hlt, rfl, u6, ?_⟩
        have hnew := hs.new hk (c := ⟨node, id, nm⟩) hlt
        refine ⟨hnew, bm, _, hh.out.new hs u6 (by simpa using t6.out) hw6.out r6.out (ownsRow_mk s6.out (by omega) (by simp [maxLen]) rfl rfl) (fun m hm => ?_) (by omega) (fun k hk => by simp [Value.ownBlock] at hk; omega)⟩
        have hm' := hh.out.tsk m hm
        refine ⟨o6.out _ (blk_lt hm'.blk) (fun e => ?_) (fun e => ?_), fun k hk => ?_⟩
        · have := hm'.blk; rw [e, hblk.out] at this; cases this
        · obtain ⟨es, cl, he⟩ := hh.out.own.blk
          have := hm'.blk; rw [e, he] at this; cases this
        · obtain ⟨cur, hc⟩ := kind_row hm'.row hk
          refine o6.out _ (blk_lt hc) (fun e => ?_) (fun e => ?_)
          · rw [e, hblk.out] at hc; cases hc
          · obtain ⟨es, cl, he⟩ := hh.out.own.blk
            rw [e, he] at hc; cases hc
    · intro m w5 cnt5 hm hlm hrg6 hlt hg5 hs5 hen
      have hu5 : Upd0 w w5 := hu.grown hg5 (fun k h => by cases h; intro; omega)
      have ht5 := (hh.out.to0 hu5).tsk m hm
      obtain ⟨m0, m1, m2, m3⟩ := cell3 (show w5.heap[m.ids.2]? = _ from ht5.blk)
      obtain ⟨n0, n1, n2⟩ := cell2 (show w5.heap[w.heap.size]? = _ from (hg5.block _ (by omega) (by simp; omega)).trans b0.out)
      have n5 := Lib.hid (show w5.heap[w.heap.size + 1]? = _ from (hg5.block _ (by omega) (by simp; omega)).trans b1.out)
      have hs5' : w.heap.size + 2 ≤ w5.heap.size := by omega
      have hn0 := hmiss.out m hm
      have hd : ¬ m.k.q = F ∨ (m.k.q = F ∧ ¬ m.k.ty = ty) := by
        by_cases e1 : m.k.q = F
        · exact .inr ⟨e1, fun e2 => by rw [hitK_iff.2 ⟨e1, e2⟩] at hn0; cases hn0⟩
        · exact .inl e1
      clear hn0
      rcases hd with e1 | ⟨e1, e2⟩
      all_goals
        go_wp2_with (first
          | (with_reducible refine wp_serial (by kernel_rfl) (by kernel_rfl) (by (repeat (first | (with_reducible apply NoBad.then) | (with_reducible apply NoBad.inBlock) | (with_reducible exact NoBad.rets))); done) ?_) | fail)
        go_roundw
        case rel => exact ⟨_, cnt5, hrg6.drew, fun kl hkl => hlf kl (by simp only [Bool.and_eq_true] at hkl; exact hkl.1), hu5.drew, hs5', Lib.hid ((hg5.block _ (by omega) (by simp; omega)).trans b0.out), n5⟩
        case measure => rw [World.ranges.left_eq hrg6.drew, World.ranges.left_eq hrg5]; exact hlt
end Go.Proofs.Ytebnilkcpklnmaa
