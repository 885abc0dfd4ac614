/-
  The program's cache: Put, where something is written.
-/
import Derived.Test.YtijmbpokglohbaaCaH
namespace Go.Proofs.Ytijmbpokglohbaa
open Go.RowKit Go.Maps
set_option linter.unusedSimpArgs false
set_option linter.unusedVariables false
variable {B : Nat}
/-- what the map tells of a key -/
theorem CaIs.look {w : World} {t bm : Nat} {room most N : Int} {L : List CE} {M : List EM} (h : CaIs B w t bm room most N L M) (nm : Bs) (ty : Int) :
    (L.find? (isK nm ty) = none ∧ atQ (M.map EM.ke) nm ty = none) ∨ ∃ m ∈ M, L.find? (isK nm ty) = some m.e ∧ atQ (M.map EM.ke) nm ty = some m.g ∧ m.e.nm = nm ∧ m.e.ty = ty := by
  have e1 : L.find? (isK nm ty) = (M.find? fun m => isK nm ty m.e).map (·.e) := by rw [← h.abs, List.find?_map]; rfl
  have e2 : atQ (M.map EM.ke) nm ty = (M.find? fun m => isK nm ty m.e).map (·.g) := by
    rw [atQ, List.find?_map, Option.map_map]
    rfl
  rw [e1, e2]
  cases hf : M.find? fun m => isK nm ty m.e with
  | none => exact .inl ⟨rfl, rfl⟩
  | some m =>
    have hk := List.find?_some hf
    rw [isK_iff] at hk
    exact .inr ⟨m, List.mem_of_find?_eq_some hf, rfl, rfl, hk.1, hk.2⟩
theorem putB_num {s : St} {rk now : Int} (h : putB s rk now = true) : mayS s = true ∧ (decide (1 ≤ rk) && decide (rk ≤ 5)) = true ∧ (decide (0 ≤ now) && decide (now ≤ 1099511627776)) = true := by
  rw [putB, Bool.and_eq_true, Bool.and_eq_true] at h
  exact h
theorem CaIs.notS {w : World} {t bm : Nat} {room most N : Int} {L : List CE} {M : List EM} (h : CaIs B w t bm room most N L M) {b0 : Nat} {c0 : Array Value} (hb : w.heap[b0]? = some (.cells c0 60 (0, 0))) : ¬ b0 = t ∧ ¬ b0 = bm ∧ ∀ m ∈ M, ¬ m.g = b0 := by
  refine ⟨fun e => ?_, fun e => ?_, fun m hm e => ?_⟩
  · rw [e, h.blk] at hb
    injection hb with hb; injection hb with _ hb _
    exact absurd hb (by decide)
  · obtain ⟨es, c, hc⟩ := h.own.blk
    rw [e, hc] at hb; cases hb
  · have := (h.ent m hm).blk
    rw [e, hb] at this
    injection this with this; injection this with _ this _
    exact absurd this (by decide)
theorem CaIs.noString {w : World} {t bm : Nat} {room most N : Int} {L : List CE} {M : List EM} (h : CaIs B w t bm room most N L M) {b0 : Nat} {c0 : Array Value} (hb : w.heap[b0]? = some (.cells c0 60 (0, 0))) : ∀ g cur fz, w.heap[g]? = some (.cells cur 9 fz) → ¬ (g = t ∨ g = b0 ∨ g = bm) := by
  intro g cur fz hg hs
  rcases hs with e | e | e
  · rw [e, h.blk] at hg
    injection hg with hg; injection hg with _ hg _
    exact absurd hg (by decide)
  · rw [e, hb] at hg
    injection hg with hg; injection hg with _ hg _
    exact absurd hg (by decide)
  · obtain ⟨es, c, hc⟩ := h.own.blk
    rw [e, hc] at hg; cases hg
theorem updq_set {w w6 w' : World} {t : Nat} {S : Nat → Prop} (k : UpdQ B w w6) (ht : ∀ n, n < w.heap.size → S n → B ≤ n ∧ kindQ w6.heap[n]? = true) (U : Upd S w6 w') : UpdQ B w w' := by
  refine Upd.trans k U fun n hn hs => ?_
  obtain ⟨h1, h2⟩ := ht n hn hs
  by_cases he : kindQ w.heap[n]? = true
  · exact ⟨h1, he⟩
  · have := k.keep n hn (fun h => he h.2)
    rw [this] at h2
    exact absurd h2 he
/-- the number of calls is written -/
theorem CaIs.bump {w w6 : World} {t bm : Nat} {room most N : Int} {L : List CE} {M : List EM} (h : CaIs B w6 t bm room most N L M) (k : UpdQ B w w6) (v : Value) : UpdQ B w (w6.setCell ⟨t, 3, none⟩ v).drew :=
  updq_set (t := t) (S := fun n => n = t) k (fun n hn e => by subst e; exact ⟨h.lo.1, by rw [h.blk]; rfl⟩) (((Upd.refl (fun n => n = t) w6).setCell (p := ⟨t, 3, none⟩) (fun _ => rfl) v).drew)
theorem CaIs.bump0 {w w6 : World} {t bm : Nat} {room most N : Int} {L : List CE} {M : List EM} (h : CaIs B w6 t bm room most N L M) (k : UpdQ B w w6) (v : Value) : UpdQ B w (w6.setCell ⟨t, 3, none⟩ v) :=
  updq_set (t := t) (S := fun n => n = t) k (fun n hn e => by subst e; exact ⟨h.lo.1, by rw [h.blk]; rfl⟩) ((Upd.refl (fun n => n = t) w6).setCell (p := ⟨t, 3, none⟩) (fun _ => rfl) v)
theorem Upd.undrew {S : Nat → Prop} {w w' : World} (h : Upd S w w') : Upd S w.drew w' := ⟨h.os, h.tape, h.output, h.size, h.keep⟩
theorem put_own {w6 w9 : World} {t b0 bm : Nat} {v u : Value} {o : Obj} (hu9 : Upd0 (w6.setCell ⟨t, 3, none⟩ v).drew w9) (h1 : bm < w6.heap.size) (h2 : ¬ bm = t) (h3 : ¬ bm = b0) : ((w9.setCell ⟨b0, 3, none⟩ u).alloc o).heap[bm]? = w6.heap[bm]? := by
  have h4 : bm < (w6.setCell ⟨t, 3, none⟩ v).drew.heap.size := by simpa using h1
  have h5 : bm < w9.heap.size := Nat.lt_of_lt_of_le h4 hu9.size
  rw [Below.heap_alloc _ _ _ (by simpa using h5), blk_set_other h3, hu9.keep bm h4 (fun h => h)]
  exact blk_set_other h2 _ _
theorem dropQ_none {M : List EM} {nm : Bs} {ty : Int} (h : ∀ e ∈ M.map (·.e), ¬ (e.nm = nm ∧ e.ty = ty)) : dropQ (M.map EM.ke) nm ty = M.map EM.ke := by
  unfold dropQ
  rw [List.filter_eq_self]
  intro p hp
  obtain ⟨m, hm, rfl⟩ := List.mem_map.1 hp
  cases hb : KE.is nm ty m.ke
  · rfl
  · exact absurd (is_iff.1 hb) (h m.e (List.mem_map.2 ⟨m, hm, rfl⟩))
theorem put_fin {w w6 w9 w12 : World} {t bm b0 : Nat} {room most N : Int} {L1 : List CE} {M1 : List EM} (a1 : CaIs B w6 t bm room most N L1 M1) (Q6 : UpdQ B w w6) (hBw : B ≤ w.heap.size) (hb0 : w.heap.size ≤ b0) {c0 : Array Value} (hy : w6.heap[b0]? = some (.cells c0 60 (0, 0)))
    (hu9 : Upd0 (w6.setCell ⟨t, 3, none⟩ (.int .i64 (N + 1))).drew w9) {ao' : Option Addr} {cap' : Nat} {dt : List Bs} (hs9 : SR w9 ao' dt) (hn9 : ∀ g o, ao' = some ⟨g, o, none⟩ → w6.heap.size ≤ g ∧ ∃ cur, w9.heap[g]? = some (.cells cur 9 (0, 0)))
    {u : Value} {nm : Bs} {ty tl rk en : Int} (hnk : ∀ e ∈ L1, ¬ (e.nm = nm ∧ e.ty = ty))
    (hU : Upd (fun b => b = bm) ((w9.setCell ⟨b0, 3, none⟩ u).alloc (.cells ((CE.mk nm ty tl dt rk en (N + 1)).cells ao' cap') 106 (0, 0))) w12) (ho : OwnsQ w12 bm (dropQ (M1.map EM.ke) nm ty ++ [⟨nm, ty, w9.heap.size⟩])) :
    CaIs B w12 t bm room most (N + 1) (L1 ++ [⟨nm, ty, tl, dt, rk, en, N + 1⟩]) (M1 ++ [⟨⟨nm, ty, tl, dt, rk, en, N + 1⟩, w9.heap.size, ao', cap'⟩]) ∧ UpdQ B w w12 := by
  obtain ⟨nt, nb, ng⟩ := a1.notS hy
  have nstr := a1.noString hy
  have htl := blk_lt a1.blk
  have hbl := a1.own.lt
  have hz : w6.heap.size ≤ w9.heap.size := by have := hu9.size; simpa using this
  have U9 : Upd (fun b => b = t ∨ b = b0 ∨ b = bm) w6 w9 := Upd.trans (((Upd.refl (fun b => b = t ∨ b = b0 ∨ b = bm) w6).setCell (p := ⟨t, 3, none⟩) (fun _ => .inl rfl) (.int .i64 (N + 1))).drew) hu9 (fun _ _ h => h.elim)
  have UA : Upd (fun b => b = t ∨ b = b0 ∨ b = bm) w6 w12 := Upd.trans ((U9.setCell (p := ⟨b0, 3, none⟩) (fun _ => .inr (.inl rfl)) u).alloc _) hU (fun n _ h => .inr (.inr h))
  have UB : Upd (fun b => b = b0 ∨ b = bm) w9 w12 := Upd.trans (((Upd.refl (fun b => b = b0 ∨ b = bm) w9).setCell (p := ⟨b0, 3, none⟩) (fun _ => .inl rfl) u).alloc _) hU (fun n _ h => .inr h)
  have hgs : w9.heap.size < ((w9.setCell ⟨b0, 3, none⟩ u).alloc (.cells ((CE.mk nm ty tl dt rk en (N + 1)).cells ao' cap') 106 (0, 0))).heap.size := by simp
  have hgb : w12.heap[w9.heap.size]? = some (.cells ((CE.mk nm ty tl dt rk en (N + 1)).cells ao' cap') 106 (0, 0)) := by
    refine hU.block (by omega) (alloc_last _ _ _ (by simp))
  refine ⟨⟨?_, ?_, ?_, ?_, ?_, a1.lo.1, a1.lo.2.1, ?_⟩, updq_set (t := t) Q6 (fun n hn hs => ?_) UA⟩
  · have h1 := blk_set a1.blk 3 (.int .i64 (N + 1))
    have h2 : w9.heap[t]? = some (.cells #[.int .i64 room, .int .i64 most, .map (some bm), .int .i64 (N + 1)] 99 (0, 0)) := hu9.block (fun h => h) (show (w6.setCell ⟨t, 3, none⟩ (.int .i64 (N + 1))).heap[t]? = _ by simpa using h1)
    exact UB.block (by rintro (e | e); exact nt e.symm; exact a1.tm e) h2
  · rw [dropQ_none (by rw [a1.abs]; exact hnk)] at ho
    rw [List.map_append]
    exact ho
  · rw [List.map_append, a1.abs]; rfl
  · intro m hm
    rcases List.mem_append.1 hm with hm | hm
    · refine (a1.ent m hm).to UA ?_ nstr
      rintro (e | e | e)
      · exact (a1.em hm).2 e
      · exact ng m hm e
      · exact (a1.em hm).1 e
    · rw [List.mem_singleton.1 hm]
      refine ⟨hgb, ?_, fun g o e => ?_⟩
      · exact sr_updN hs9 UB (fun g o e hs => by
          have := (hn9 g o e).1
          have := blk_lt hy
          rcases hs with hs | hs <;> omega)
      · obtain ⟨h1, cur, h2⟩ := hn9 g o e
        have := blk_lt hy
        exact ⟨cur, (0, 0), UB.block (by rintro (hs | hs) <;> omega) h2⟩
  · refine List.pairwise_append.2 ⟨a1.dg, List.pairwise_singleton _ _, fun a ha b hb => ?_⟩
    rw [List.mem_singleton.1 hb]
    have := blk_lt (a1.ent a ha).blk
    simp only []
    omega
  · intro m hm
    rcases List.mem_append.1 hm with hm | hm
    · exact a1.lo.2.2 m hm
    · rw [List.mem_singleton.1 hm]
      have := Q6.size
      simp only []
      omega
  · rcases hs with e | e | e
    · subst e; exact ⟨a1.lo.1, by rw [a1.blk]; rfl⟩
    · omega
    · subst e
      obtain ⟨es, c, hc⟩ := a1.own.blk
      exact ⟨a1.lo.2.1, by rw [hc]; rfl⟩
set_option maxRecDepth 100000 in
set_option maxHeartbeats 4000000 in
theorem cput_go (t bm : Nat) (c : CS) (M : List EM) (s : St) (ao : Option Addr) (cap : Nat) (rk now : Int) (w : World) (hok : COk c) (hN : c.N ≤ 1000000) (hf : fewS s = true) (hb : putB s rk now = true) (hB : B ≤ w.heap.size) (h : CaIs B w t bm c.room c.most c.N c.L M) (hS : Stay B w ao s.dt) :
    Calls Try.prog 34 #[.pointer (some ⟨t, 0, none⟩), s.val ao cap, .int .i64 rk, .int .i64 now] w (Rets fun r w' => r = .int .i64 (putI c s rk now) ∧ UpdQ B w w' ∧ Ca B w' t (putS c s rk now)) := by
  obtain ⟨b1, b2, b3⟩ := putB_num hb
  obtain ⟨f1, f2, f3⟩ := fewS_num hf
  have g1 : s.nm.length ≤ 70000 := by omega
  have g2 : ∀ d ∈ s.dt, d.length ≤ 70000 := fun d hd => by have := f3 d hd; omega
  have g3 : s.dt.length ≤ 20 := by omega
  have hw := Lib.hid (fun (w' : World) (g : Nat) (h : w'.heap[g]? = some (.cells (setC s ao cap) 60 (0, 0))) (k : SR w' ao s.dt) => check1_w s g ao cap g1 g2 g3 w' h k)
  have hSh := Lib.hid hS
  have hck := Lib.hid (ckS_yes b1)
  have h2h := Lib.hid b2
  have h3h := Lib.hid b3
  have hpI : putI c s rk now = (if denyB c.L s rk now then 9 else 0) := by rw [putI, if_pos hb]
  have hpS : putS c s rk now = (if denyB c.L s rk now then c else putZ c s rk now) := by rw [putS, if_pos hb]
  have hmn := may_num b1
  have hko : KOk s.nm s.ty := by
    refine ⟨by unfold maxLen; omega, ?_⟩
    simp only [Lit.wf, Bool.and_eq_true, decide_eq_true_eq]
    have h1 : (IntKind.i64.min : Int) = -9223372036854775808 := by decide
    have h2 : (IntKind.i64.max : Int) = 9223372036854775807 := by decide
    omega
  have hpz := Lib.hid (show putZ c s rk now = if s.tl = 0 then { c with L := dropK c.L s.nm s.ty } else { c with N := c.N + 1, L := roomed c.room (dropK c.L s.nm s.ty) now ++ [newC s rk now c.most c.N] } from rfl)
  obtain ⟨pz, hpze⟩ : ∃ pz, putZ c s rk now = pz := ⟨_, rfl⟩
  rw [hpze] at hpz hpS
  rw [hpI, hpS]
  obtain ⟨dn, hdn⟩ : ∃ dn, denyB c.L s rk now = dn := ⟨_, rfl⟩
  have hdnh := Lib.hid (show (c.L.find? (isK s.nm s.ty)).any (fun e => decide (now < e.en) && decide (rk < e.rk)) = dn from hdn)
  rw [hdn]
  have hnq := Lib.hid (h.neq hok.keys)
  have hh := Lib.hid h
  have hokh := Lib.hid hok
  have htl := blk_lt h.blk
  have hbml := h.own.lt
  have hlk := Lib.hid (h.look s.nm s.ty)
  obtain ⟨c0, c1, c2, c3⟩ := set4 h.blk
  have hlen12 : s.dt.length ≤ 12 := f1
  obtain ⟨hfd, hd1, hd20, k1, k2, k3, k4⟩ := hmn
  clear hfd hd20 g3
  have tk1 : True := trivial
  clear b1 b2 b3 hpI hpS hb f1 f2 f3 g1 g2 hpze hdn h hok hS hf
  obtain ⟨room, most, N, L⟩ := c
  obtain ⟨nm, ty, tl, dt⟩ := s
  simp only [St.val] at *
  obtain ⟨cq, hcq⟩ : ∃ cq, atQ (M.map EM.ke) nm ty = cq := ⟨_, rfl⟩
  have hcqh := Lib.hid hcq
  rw [hcq] at hlk
  clear hcq
  go_enter Try.func34, Try.ntmps34
  go_upto_region 5 with (first
    | (go_at_call 41; refine (hw.out _ _ (alloc_last _ _ _ (by simp)) (hSh.out.sr.up (by repeat first | with_reducible (first | exact Upd.refl _ _ | assumption | apply Upd.drew | apply Upd.alloc) | refine Upd0.tr ?_ (by with_reducible assumption) | refine Upd.setCell ?_ (fun h => absurd h (by first | exact Nat.lt_irrefl _ | (simp only []; omega))) _))).use ?_; rintro v w1 ⟨rfl, hu1⟩; rw [hck.out]; have y1 := Lib.hid (hu1.block (fun h => h) (show ((w.alloc _).alloc _).heap[w.heap.size]? = _ from blk_alloc (alloc_last w _ w.heap.size rfl))))
    | (go_at_call 57; have _t := tk1; (with_reducible refine (within_w rk 1 5 _).use ?_); rintro v w2 ⟨rfl, hu2⟩; rw [h2h.out]; clear tk1 _t)
    | (go_at_call 57; (with_reducible refine (within_w now 0 1099511627776 _).use ?_); rintro v w3 ⟨rfl, hu3⟩; rw [h3h.out]; have hu03 : Upd0 w w3 := (by repeat first | with_reducible (first | exact Upd.refl _ _ | assumption | apply Upd.drew | apply Upd.alloc) | refine Upd0.tr ?_ (by with_reducible assumption) | refine Upd.setCell ?_ (fun h => absurd h (by first | exact Nat.lt_irrefl _ | (simp only []; omega))) _); have y3 := Lib.hid ((hu2.tr hu3).block (fun h => h) y1.out); obtain ⟨x0, x1, x2, x3⟩ := set4 y3.out; have hbl := blk_lt y3.out; obtain ⟨z0, z1, z2, z3⟩ := set4 (hu03.block (fun h => h) hh.out.blk); have htl3 := Nat.lt_of_lt_of_le htl hu03.size; have hbl3 := Nat.lt_of_lt_of_le hbml hu03.size)
    | (at_lookup; refine wpList_lookQ _ rfl _ _ rfl bm (M.map EM.ke) rfl (OwnsQ.to hh.out.own (by first | exact hu03.keep bm hbml (fun h => h) | exact ((hu03.alloc _).drew).keep bm hbml (fun h => h))) hnq.out nm ty rfl hko cq hcqh.out ?_)
    | (with_reducible refine wp_serial (by kernel_rfl) (by kernel_rfl) (by repeat with_reducible (first | apply NoBad.then | apply NoBad.inBlock | apply NoBad.jump | exact NoBad.rets)) ?_) | fail)
  have hN0 := hokh.out.n0
  simp only [] at hN0
  go_cut [60] from 44 (fun b wx => b = .bool dn ∧ Upd0 w3 wx ∧ Hid (wx.heap[w3.heap.size]? = some (.cells #[.string ⟨nm.toArray⟩, .int .i64 ty] 102 (0, 0))))
  case first =>
    have hkey := Lib.hid (alloc_last w3 (.cells #[.string ⟨nm.toArray⟩, .int .i64 ty] 102 (0, 0)) w3.heap.size rfl)
    have hw34 := Lib.hid (show Upd0 w3 (w3.alloc (.cells #[.string ⟨nm.toArray⟩, .int .i64 ty] 102 (0, 0))).drew from (Upd.refl _ _).alloc _ |>.drew)
    rcases hlk.out with ⟨q1, rfl⟩ | ⟨m, hm, q1, rfl, q3, q4⟩
    · have hdf : dn = false := by rw [← hdnh.out, q1]; rfl
      subst hdf
      simp only [mkQ]
      go_wp2_with (first | (with_reducible refine wp_serial (by kernel_rfl) (by kernel_rfl) (by repeat with_reducible (first | apply NoBad.then | apply NoBad.inBlock | apply NoBad.jump | exact NoBad.rets)) ?_) | fail)
      all_goals go_meet
      exact ⟨rfl, hw34.out, hkey⟩
    · have hE3 := (hh.out.to0 hu03).ent m hm
      have hE3c := ent7 hE3; obtain ⟨e0, e1, e2, e3, e4, e5, e6⟩ := hE3c
      have hml := blk_lt hE3.blk
      clear hE3
      simp only [mkQ]
      by_cases hlt : now < m.e.en
      · by_cases hrk : rk < m.e.rk
        · have hdf : dn = true := by rw [← hdnh.out, q1]; simp [hlt, hrk]
          subst hdf
          clear q1 q3 q4
          go_wp2_with (first | (with_reducible refine wp_serial (by kernel_rfl) (by kernel_rfl) (by repeat with_reducible (first | apply NoBad.then | apply NoBad.inBlock | apply NoBad.jump | exact NoBad.rets)) ?_) | fail)
          all_goals go_meet
          exact ⟨rfl, hw34.out, hkey⟩
        · have hdf : dn = false := by rw [← hdnh.out, q1]; simp [hlt, hrk]
          subst hdf
          clear q1 q3 q4
          have hrk' : m.e.rk ≤ rk := by omega
          go_wp2_with (first | (with_reducible refine wp_serial (by kernel_rfl) (by kernel_rfl) (by repeat with_reducible (first | apply NoBad.then | apply NoBad.inBlock | apply NoBad.jump | exact NoBad.rets)) ?_) | fail)
          all_goals go_meet
          exact ⟨rfl, hw34.out, hkey⟩
      · have hdf : dn = false := by rw [← hdnh.out, q1]; simp [hlt]
        subst hdf
        clear q1 q3 q4
        go_wp2_with (first | (with_reducible refine wp_serial (by kernel_rfl) (by kernel_rfl) (by repeat with_reducible (first | apply NoBad.then | apply NoBad.inBlock | apply NoBad.jump | exact NoBad.rets)) ?_) | fail)
        all_goals go_meet
        exact ⟨rfl, hw34.out, hkey⟩
  case rest =>
    obtain ⟨rfl, hwc, hkb⟩ := hcut
    have hkl := blk_lt hkb.out
    obtain ⟨n0, n1, n2, n3⟩ := two2 hkb.out
    have hUc : Upd0 w wc := hu03.tr hwc
    have hzc := hwc.size
    have y4 := Lib.hid (hwc.block (fun h => h) y3.out)
    clear x0 x1 x2 x3 z0 z1 z2 z3 c0 c1 c2 c3
    obtain ⟨x0, x1, x2, x3⟩ := set4 y4.out
    obtain ⟨z0, z1, z2, z3⟩ := set4 (hUc.block (fun h => h) hh.out.blk)
    have htlc := Nat.lt_of_lt_of_le htl hUc.size
    have hblc := Nat.lt_of_lt_of_le hbml hUc.size
    cases dn with
    | true =>
      go_wp2_with (first | (with_reducible refine wp_serial (by kernel_rfl) (by kernel_rfl) (by repeat with_reducible (first | apply NoBad.then | apply NoBad.inBlock | apply NoBad.jump | exact NoBad.rets)) ?_) | fail)
      all_goals go_returns
      all_goals exact ⟨rfl, UpdQ.of0 (show Upd0 w _ from (by repeat first | with_reducible (first | exact Upd.refl _ _ | assumption | apply Upd.drew | apply Upd.alloc) | refine Upd0.tr ?_ (by with_reducible assumption) | refine Upd.setCell ?_ (fun h => absurd h (by first | exact Nat.lt_irrefl _ | (simp only []; omega))) _)), bm, M, hh.out.to0 (show Upd0 w _ from (by repeat first | with_reducible (first | exact Upd.refl _ _ | assumption | apply Upd.drew | apply Upd.alloc) | refine Upd0.tr ?_ (by with_reducible assumption) | refine Upd.setCell ?_ (fun h => absurd h (by first | exact Nat.lt_irrefl _ | (simp only []; omega))) _))⟩
    | false =>
      clear hlk hcqh hdnh
      have hWc := Lib.hid (hh.out.to0 hUc)
      obtain ⟨M1, hM1⟩ : ∃ M1, (M.filter fun m => !isK nm ty m.e) = M1 := ⟨_, rfl⟩
      have hM1h := Lib.hid (show dropQ (M.map EM.ke) nm ty = M1.map EM.ke by rw [← hM1, dropQ, List.filter_map]; rfl)
      have hs1 := Lib.hid (show M1.Sublist M by rw [← hM1]; exact List.filter_sublist)
      have ha1 := Lib.hid (show M1.map (·.e) = dropK L nm ty by rw [← hM1]; exact map_filter_e hh.out.abs (fun e => !isK nm ty e))
      have hrec : ∀ w6, OwnsQ w6 bm (dropQ (M.map EM.ke) nm ty) → wc.drew.mapTurned w6 bm → CaIs B w6 t bm room most N (dropK L nm ty) M1 ∧ UpdQ B w w6 := fun w6 ho hg => by
        rw [hM1h.out] at ho
        obtain ⟨a1, a2⟩ := hWc.out.map (Upd.grown (Upd.refl _ _).drew hg.grown (fun _ h _ => by cases h; rfl)) ho hs1.out ha1.out
        exact ⟨a1, (UpdQ.of0 hUc).tr a2⟩
      have hrech := Lib.hid hrec
      have nbt : ¬ w.heap.size = t := by omega
      have nbm : ¬ w.heap.size = bm := by omega
      clear hM1 hrec
      have hdel : True := trivial
      by_cases ht0 : tl = 0
      · subst ht0
        have hpe := Lib.hid (show pz = { room := room, most := most, N := N, L := dropK L nm ty } by rw [hpz.out, if_pos rfl])
        go_wp2_with (first
          | (at_delete; refine wpList_delQ _ rfl _ _ rfl bm _ rfl (OwnsQ.to hWc.out.own rfl) nm ty rfl hko ?_; intro w6 ho6 hg6; have hrx := hrech.out w6 ho6 hg6; obtain ⟨a1, a2⟩ := hrx; have a1h := Lib.hid a1; have a2h := Lib.hid a2; have U6 : Upd (fun b => b = bm) wc w6 := (Upd.grown (Upd.refl _ _).drew hg6.grown (fun _ h _ => by cases h; rfl)); have y6 := set4 (U6.block nbm y4.out); obtain ⟨f0, f1, f2, f3⟩ := y6; clear ho6 hg6 a1 a2)
          | (with_reducible refine wp_serial (by kernel_rfl) (by kernel_rfl) (by repeat with_reducible (first | apply NoBad.then | apply NoBad.inBlock | apply NoBad.jump | exact NoBad.rets)) ?_) | fail)
        all_goals go_returns
        all_goals exact ⟨rfl, a2h.out, by rw [hpe.out]; exact ⟨bm, M1, a1h.out⟩⟩
      · have hpe := Lib.hid (show pz = { room := room, most := most, N := N + 1, L := roomed room (dropK L nm ty) now ++ [newC ⟨nm, ty, tl, dt⟩ rk now most N] } by rw [hpz.out, if_neg ht0])
        have ht0b : (tl == 0) = false := beq_eq_false_iff_ne.2 ht0
        have hm1 := hokh.out.m1
        have hm2 := hokh.out.m2
        have hr2 := hokh.out.r2
        simp only [] at hm1 hm2 hr2
        have hnow : 0 ≤ now ∧ now ≤ 1099511627776 := by
          have := h3h.out
          simpa using this
        have hwr : wrap64 (now + min tl most) = now + min tl most := by unfold wrap64; omega
        have hwn : wrap64 (N + 1) = N + 1 := by unfold wrap64; omega
        obtain ⟨L1, hL1⟩ : ∃ L1, dropK L nm ty = L1 := ⟨_, rfl⟩
        have hL1h := Lib.hid hL1
        rw [hL1] at hrech hpe ha1
        have hln1 := Lib.hid (show ((M1.map EM.ke).length : Int) = L1.length by rw [← ha1.out]; simp)
        have hok1 := Lib.hid (show COk { room := room, most := most, N := N, L := L1 } from by
          have hs : L1.Sublist L := by rw [← hL1]; exact dropK_sub L nm ty
          exact ⟨hokh.out.r1, hokh.out.r2, hokh.out.m1, hokh.out.m2, by have h1 := hs.length_le; have h2 := hokh.out.len; simp only [] at h2 ⊢; omega, hokh.out.n0, fun e he => hokh.out.ent e (hs.subset he), hokh.out.keys.sub hs, hokh.out.uss.sub hs⟩)
        have hl5 : dt.length ≤ 5000 := by omega
        have hmt : ¬ bm = t := fun e => hh.out.tm e.symm
        have nbm2 : ¬ bm = w.heap.size := fun e => nbm e.symm
        have hnk := Lib.hid (show ∀ e ∈ L1, ¬ (e.nm = nm ∧ e.ty = ty) by rw [← hL1]; exact find_dropK)
        clear hL1 hpz
        by_cases hroom : (L1.length : Int) < room
        · have hr0 : ¬ room ≤ L1.length := by omega
          have hml : (M1.map EM.ke).length < maxLen := by
            have := hln1.out
            unfold maxLen; omega
          have hrm := Lib.hid (show roomed room L1 now = L1 by rw [roomed, if_pos hroom])
          go_wp2_with (first
            | (at_delete; refine wpList_delQ _ rfl _ _ rfl bm _ rfl (OwnsQ.to hWc.out.own rfl) nm ty rfl hko ?_; intro w6 ho6 hg6; have hrx := hrech.out w6 ho6 hg6; obtain ⟨a1, a2⟩ := hrx; have a1h := Lib.hid a1; have a2h := Lib.hid a2; have U6 : Upd (fun b => b = bm) wc w6 := (Upd.grown (Upd.refl _ _).drew hg6.grown (fun _ h _ => by cases h; rfl)); have y6 := Lib.hid (U6.block nbm y4.out); have y66 := set4 y6.out; obtain ⟨f0, f1, f2, f3⟩ := y66; have z6 := set4 a1.blk; obtain ⟨z60, z61, z62, z63⟩ := z6; have zf6 := blk_frz a1.blk 3; have k6 := Lib.hid (U6.block (show ¬ w3.heap.size = bm by omega) hkb.out); have hz6 := U6.size; have htl6 : t < w6.heap.size := (by omega); have hbl6 : bm < w6.heap.size := (by omega); have hb6 := blk_lt y6.out; have hk6 := blk_lt k6.out; clear ho6 hg6 a1 a2)
            | (at_len; refine wpList_lenQ _ rfl _ rfl bm (M1.map EM.ke) rfl (OwnsQ.to a1h.out.own rfl) _ hln1.out ?_)
            | (go_at_call 60; refine (clones_w ao cap dt _ (hSh.out _ (a1h.out.bump a2h.out _)) hl5).use ?_; rintro v w9 ⟨ao', cap', rfl, hs9, hu9, hn9⟩; have y9 := Lib.hid (hu9.block (fun h => h) (show (w6.setCell ⟨t, 3, none⟩ (.int .i64 (N + 1))).heap[w.heap.size]? = _ from (blk_set_other nbt _ _).trans y6.out)); have y99 := set4 y9.out; obtain ⟨g0, g1, g2, g3⟩ := y99; have gf := blk_frz y9.out 3; have k9 := two2 (hu9.block (fun h => h) (show (w6.setCell ⟨t, 3, none⟩ (.int .i64 (N + 1))).heap[w3.heap.size]? = _ from (blk_set_other (show ¬ w3.heap.size = t by omega) _ _).trans k6.out)); obtain ⟨k90, k91, k92, k93⟩ := k9; have t9 := set4 (hu9.block (fun h => h) (show (w6.setCell ⟨t, 3, none⟩ (.int .i64 (N + 1))).heap[t]? = some (.cells #[.int .i64 room, .int .i64 most, .map (some bm), .int .i64 (N + 1)] 99 (0, 0)) from by simpa using blk_set a1h.out.blk 3 (.int .i64 (N + 1)))); obtain ⟨t90, t91, t92, t93⟩ := t9; have hs9h := Lib.hid hs9; have hu9h := Lib.hid hu9; have hn9h := Lib.hid hn9; have hz9 : w6.heap.size ≤ w9.heap.size := (by have := hu9.size; simpa using this); have hb9 := blk_lt y9.out; clear hs9 hu9 hn9)
            | ((with_reducible refine wp_serial3_1 0 [] [0, 1, 2, 3, 4, 5, 6, 7, 8, 9, 10, 11, 12, 13, 16, 17, 18, 19] 14 [15, 20, 21, 22] [_, _, _, _, _, _, _, _, _, _, _, _, _, _, _, _, _, _] _ [_, _, _, _] (by kernel_rfl) (by decide +kernel) rfl rfl rfl ⟨Nat.zero_le _, fun s hs => absurd hs List.not_mem_nil⟩ (by repeat with_reducible (first | apply NoBad.then | apply NoBad.inBlock | apply NoBad.jump | exact NoBad.rets)) ?_); simp only [List.getElem_toArray, List.getElem_cons_succ, List.getElem_cons_zero])
            | (with_reducible refine And.intro (Ext.refl _) ?_)
            | (at_mapUpdate; go_loud (refine wpList_putQ _ rfl _ _ _ rfl bm (M1.map EM.ke) rfl (OwnsQ.to a1h.out.own (put_own hu9h.out hbl6 hmt nbm2)) hml nm ty rfl hko w9.heap.size rfl ?_); intro w12 ho12 hg12; have hfin := put_fin (rk := rk) (en := now + min tl most) (tl := tl) a1h.out a2h.out hB (Nat.le_refl _) y6.out hu9h.out hs9h.out (fun g o e => by have := hn9h.out g o e; simpa using this) hnk.out (Upd.grown (Upd.refl _ _).drew hg12.grown (fun _ h _ => by cases h; rfl)) ho12; have hfinh := Lib.hid hfin; clear hfin ho12 hg12)
            | (with_reducible refine wp_serial (by kernel_rfl) (by kernel_rfl) (by repeat with_reducible (first | apply NoBad.then | apply NoBad.inBlock | apply NoBad.jump | exact NoBad.rets)) ?_) | fail)
          all_goals go_returns
          all_goals exact ⟨rfl, hfinh.out.2, by rw [hpe.out, hrm.out]; exact ⟨bm, _, hfinh.out.1⟩⟩
        · have hr0 : room ≤ L1.length := by omega
          have hrm := Lib.hid (show roomed room L1 now = clearL room L1 now by rw [roomed, if_neg hroom])
          have hnk8 := Lib.hid (show ∀ e ∈ clearL room L1 now, ¬ (e.nm = nm ∧ e.ty = ty) from fun e he => hnk.out e ((clearL_sub room L1 now).subset he))
          have hlc := Lib.hid (show (clearL room L1 now).length ≤ 1000 by
            have h1 := (clearL_sub room L1 now).length_le
            have h2 := hok1.out.len
            simp only [] at h2
            omega)
          go_wp2_with (first
            | (at_delete; refine wpList_delQ _ rfl _ _ rfl bm _ rfl (OwnsQ.to hWc.out.own rfl) nm ty rfl hko ?_; intro w6 ho6 hg6; have hrx := hrech.out w6 ho6 hg6; obtain ⟨a1, a2⟩ := hrx; have a1h := Lib.hid a1; have a2h := Lib.hid a2; have U6 : Upd (fun b => b = bm) wc w6 := (Upd.grown (Upd.refl _ _).drew hg6.grown (fun _ h _ => by cases h; rfl)); have y6 := Lib.hid (U6.block nbm y4.out); have y66 := set4 y6.out; obtain ⟨f0, f1, f2, f3⟩ := y66; have z6 := set4 a1.blk; obtain ⟨z60, z61, z62, z63⟩ := z6; have zf6 := blk_frz a1.blk 3; have k6 := Lib.hid (U6.block (show ¬ w3.heap.size = bm by omega) hkb.out); have hz6 := U6.size; have htl6 : t < w6.heap.size := (by omega); have hbl6 : bm < w6.heap.size := (by omega); have hb6 := blk_lt y6.out; have hk6 := blk_lt k6.out; clear ho6 hg6 a1 a2)
            | (at_len; refine wpList_lenQ _ rfl _ rfl bm (M1.map EM.ke) rfl (OwnsQ.to a1h.out.own rfl) _ hln1.out ?_)
            | (go_at_call 59; (with_reducible refine (clear_w t bm room most N now L1 M1 w6.drew (a1h.out.to0 (show Upd0 w6 w6.drew from (by repeat first | with_reducible (first | exact Upd.refl _ _ | assumption | apply Upd.drew | apply Upd.alloc) | refine Upd0.tr ?_ (by with_reducible assumption) | refine Upd.setCell ?_ (fun h => absurd h (by first | exact Nat.lt_irrefl _ | (simp only []; omega))) _))) hok1.out hN (show B ≤ w6.drew.heap.size by simp; omega)).use ?_); rintro v w8 ⟨rfl, hq8, M2, h8⟩; have hq68 : UpdQ B w6 w8 := (UpdQ.of0 (show Upd0 w6 w6.drew from (by repeat first | with_reducible (first | exact Upd.refl _ _ | assumption | apply Upd.drew | apply Upd.alloc) | refine Upd0.tr ?_ (by with_reducible assumption) | refine Upd.setCell ?_ (fun h => absurd h (by first | exact Nat.lt_irrefl _ | (simp only []; omega))) _))).tr hq8; have q8h := Lib.hid (a2h.out.tr hq68); have y8 := Lib.hid (hq68.block (fun h => by rw [y6.out] at h; exact absurd h.2 (by simp [kindQ])) y6.out); have y88 := set4 y8.out; obtain ⟨g80, g81, g82, g83⟩ := y88; have k8 := Lib.hid (hq68.block (fun h => by rw [k6.out] at h; exact absurd h.2 (by simp [kindQ])) k6.out); have z8 := set4 h8.blk; obtain ⟨z80, z81, z82, z83⟩ := z8; have zf8 := blk_frz h8.blk 3; have h8h := Lib.hid h8; have hz8 : w6.heap.size ≤ w8.heap.size := hq68.size; have htl8 : t < w8.heap.size := (by omega); have hbl8 : bm < w8.heap.size := (by omega); have hb8 := blk_lt y8.out; have hk8 := blk_lt k8.out; have hml8 := Lib.hid (show (M2.map EM.ke).length < maxLen from by have e1 := congrArg List.length h8.abs; have e2 := hlc.out; simp only [List.length_map] at e1 ⊢; unfold maxLen; omega); clear hq8 h8)
            | (go_at_call 60; refine (clones_w ao cap dt _ (hSh.out _ (h8h.out.bump0 q8h.out _)) hl5).use ?_; rintro v w9 ⟨ao', cap', rfl, hs9, hu9z, hn9⟩; have hu9 : Upd0 (w8.setCell ⟨t, 3, none⟩ (.int .i64 (N + 1))).drew w9 := hu9z.undrew; have y9 := Lib.hid (hu9.block (fun h => h) (show (w8.setCell ⟨t, 3, none⟩ (.int .i64 (N + 1))).heap[w.heap.size]? = _ from (blk_set_other nbt _ _).trans y8.out)); have y99 := set4 y9.out; obtain ⟨g0, g1, g2, g3⟩ := y99; have gf := blk_frz y9.out 3; have k9 := two2 (hu9.block (fun h => h) (show (w8.setCell ⟨t, 3, none⟩ (.int .i64 (N + 1))).heap[w3.heap.size]? = _ from (blk_set_other (show ¬ w3.heap.size = t by omega) _ _).trans k8.out)); obtain ⟨k90, k91, k92, k93⟩ := k9; have t9 := set4 (hu9.block (fun h => h) (show (w8.setCell ⟨t, 3, none⟩ (.int .i64 (N + 1))).heap[t]? = some (.cells #[.int .i64 room, .int .i64 most, .map (some bm), .int .i64 (N + 1)] 99 (0, 0)) from by simpa using blk_set h8h.out.blk 3 (.int .i64 (N + 1)))); obtain ⟨t90, t91, t92, t93⟩ := t9; have hs9h := Lib.hid hs9; have hu9h := Lib.hid hu9; have hn9h := Lib.hid hn9; have hz9 : w8.heap.size ≤ w9.heap.size := (by have := hu9.size; simpa using this); have hb9 := blk_lt y9.out; clear hs9 hu9 hn9)
            | ((with_reducible refine wp_serial3_1 0 [] [0, 1, 2, 3, 4, 5, 6, 7, 8, 9, 10, 11, 12, 13, 16, 17, 18, 19] 14 [15, 20, 21, 22] [_, _, _, _, _, _, _, _, _, _, _, _, _, _, _, _, _, _] _ [_, _, _, _] (by kernel_rfl) (by decide +kernel) rfl rfl rfl ⟨Nat.zero_le _, fun s hs => absurd hs List.not_mem_nil⟩ (by repeat with_reducible (first | apply NoBad.then | apply NoBad.inBlock | apply NoBad.jump | exact NoBad.rets)) ?_); simp only [List.getElem_toArray, List.getElem_cons_succ, List.getElem_cons_zero])
            | (with_reducible refine And.intro (Ext.refl _) ?_)
            | (at_mapUpdate; go_loud (refine wpList_putQ _ rfl _ _ _ rfl bm (M2.map EM.ke) rfl (OwnsQ.to h8h.out.own (put_own hu9h.out hbl8 hmt nbm2)) hml8.out nm ty rfl hko w9.heap.size rfl ?_); intro w12 ho12 hg12; have hfin := put_fin (rk := rk) (en := now + min tl most) (tl := tl) h8h.out q8h.out hB (Nat.le_refl _) y8.out hu9h.out hs9h.out (fun g o e => by have := hn9h.out g o e; simpa using this) hnk8.out (Upd.grown (Upd.refl _ _).drew hg12.grown (fun _ h _ => by cases h; rfl)) ho12; have hfinh := Lib.hid hfin; clear hfin ho12 hg12)
            | (with_reducible refine wp_serial (by kernel_rfl) (by kernel_rfl) (by repeat with_reducible (first | apply NoBad.then | apply NoBad.inBlock | apply NoBad.jump | exact NoBad.rets)) ?_) | fail)
          all_goals go_returns
          all_goals exact ⟨rfl, hfinh.out.2, by rw [hpe.out, hrm.out]; exact ⟨bm, _, hfinh.out.1⟩⟩
end Go.Proofs.Ytijmbpokglohbaa
