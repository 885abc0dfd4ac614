/-
  The program's cache: Get, where an entry is told.
-/
import Derived.Test.YtijmbpokglohbaaCaJ
namespace Go.Proofs.Ytijmbpokglohbaa
open Go.RowKit Go.Maps
set_option linter.unusedSimpArgs false
set_option linter.unusedVariables false
variable {B : Nat}
theorem CaIs.noStr {w : World} {t bm : Nat} {room most N : Int} {L : List CE} {M : List EM} (h : CaIs B w t bm room most N L M) {m : EM} (hm : m ∈ M) : ∀ g cur fz, w.heap[g]? = some (.cells cur 9 fz) → ¬ (g = t ∨ g = m.g) := by
  intro g cur fz hg hs
  rcases hs with e | e
  · rw [e, h.blk] at hg
    injection hg with hg; injection hg with _ hg _
    exact absurd hg (by decide)
  · rw [e, (h.ent m hm).blk] at hg
    injection hg with hg; injection hg with _ hg _
    exact absurd hg (by decide)
/-- the world ahead of the copy -/
def gY (w4 : World) (t g : Nat) (N : Int) (s : Array Value) : World := (((w4.setCell ⟨t, 3, none⟩ (.int .i64 (N + 1))).setCell ⟨g, 6, none⟩ (.int .i64 (N + 1))).alloc (.cells s 60 (0, 0))).drew
theorem getY {w4 : World} {t bm b8 : Nat} {room most N : Int} {L : List CE} {M : List EM} (h : CaIs B w4 t bm room most N L M) {m : EM} (hm : m ∈ M) {c8 : Array Value} (h8 : w4.heap[b8]? = some (.cells c8 60 (0, 0))) (n1 : ¬ b8 = t) (n2 : ¬ b8 = m.g) {s : Array Value} :
    Upd (fun b => b = t ∨ b = m.g) w4 (gY w4 t m.g N s) ∧ SR (gY w4 t m.g N s) m.ao m.e.dt ∧ (gY w4 t m.g N s).heap[w4.heap.size]? = some (.cells s 60 (0, 0)) ∧ (gY w4 t m.g N s).heap[b8]? = some (.cells c8 60 (0, 0)) ∧
      (gY w4 t m.g N s).heap[t]? = some (.cells #[.int .i64 room, .int .i64 most, .map (some bm), .int .i64 (N + 1)] 99 (0, 0)) ∧ (gY w4 t m.g N s).heap[m.g]? = some (.cells ({ m.e with us := N + 1 }.cells m.ao m.cap) 106 (0, 0)) := by
  have hne : ¬ m.g = t := (h.em hm).2
  have hU : Upd (fun b => b = t ∨ b = m.g) w4 (gY w4 t m.g N s) := ((((Upd.refl (fun b => b = t ∨ b = m.g) w4).setCell (p := ⟨t, 3, none⟩) (fun _ => .inl rfl) _).setCell (p := ⟨m.g, 6, none⟩) (fun _ => .inr rfl) _).alloc _).drew
  refine ⟨hU, ((h.ent m hm).dat.to hU (h.noStr hm)).1, alloc_last _ _ _ (by simp), hU.block (by rintro (e | e); exact n1 e; exact n2 e) h8, ?_, ?_⟩
  · exact blk_alloc ((blk_set_other (fun e => hne e.symm) _ _).trans (by simpa using blk_set h.blk 3 (.int .i64 (N + 1))))
  · have h1 : (w4.setCell ⟨t, 3, none⟩ (.int .i64 (N + 1))).heap[m.g]? = some (.cells (m.e.cells m.ao m.cap) 106 (0, 0)) := (blk_set_other hne _ _).trans (h.ent m hm).blk
    exact blk_alloc (by simpa [CE.cells] using blk_set h1 6 (.int .i64 (N + 1)))
theorem drew_blk {W : World} {b : Nat} {o : Obj} (h : W.heap[b]? = some o) : W.drew.heap[b]? = some o := h
theorem get_last {w9 : World} {b13 b8 : Nat} {a0 a1 a2 a3 : Value} (h8 : w9.heap[b8]? = some (.cells #[a0, a1, a2, a3] 60 (0, 0))) (hne : ¬ b8 = b13) (x y x0 x1 x2 x3 : Value) :
    Upd (fun b => b = b13 ∨ b = b8) w9 ((((((w9.setCell ⟨b13, 2, none⟩ x).setCell ⟨b13, 3, none⟩ y).setCell ⟨b8, 0, none⟩ x0).setCell ⟨b8, 1, none⟩ x1).setCell ⟨b8, 2, none⟩ x2).setCell ⟨b8, 3, none⟩ x3).drew ∧
    ((((((w9.setCell ⟨b13, 2, none⟩ x).setCell ⟨b13, 3, none⟩ y).setCell ⟨b8, 0, none⟩ x0).setCell ⟨b8, 1, none⟩ x1).setCell ⟨b8, 2, none⟩ x2).setCell ⟨b8, 3, none⟩ x3).drew.heap[b8]? = some (.cells #[x0, x1, x2, x3] 60 (0, 0)) := by
  refine ⟨?_, drew_blk (put4 ((blk_set_other hne _ _).trans ((blk_set_other hne _ _).trans h8)) x0 x1 x2 x3)⟩
  exact (((((((Upd.refl (fun b => b = b13 ∨ b = b8) w9).setCell (p := ⟨b13, 2, none⟩) (fun _ => .inl rfl) x).setCell (p := ⟨b13, 3, none⟩) (fun _ => .inl rfl) y).setCell (p := ⟨b8, 0, none⟩) (fun _ => .inr rfl) x0).setCell (p := ⟨b8, 1, none⟩) (fun _ => .inr rfl) x1).setCell (p := ⟨b8, 2, none⟩) (fun _ => .inr rfl) x2).setCell (p := ⟨b8, 3, none⟩) (fun _ => .inr rfl) x3).drew
set_option maxRecDepth 100000 in
set_option maxHeartbeats 4000000 in
theorem cget_yes (t bm : Nat) (c : CS) (M : List EM) (nm : Bs) (ty now : Int) (e : CE) (w : World) (hok : COk c) (hN : c.N ≤ 1000000) (hn : nm.length ≤ 70000) (hty : (Lit.int .i64 ty).wf = true) (hB : B ≤ w.heap.size) (h : CaIs B w t bm c.room c.most c.N c.L M) (hh : hitB c nm ty now = some e) :
    Calls Try.prog 36 #[.pointer (some ⟨t, 0, none⟩), .string ⟨nm.toArray⟩, .int .i64 ty, .int .i64 now] w (Rets fun r w' => ∃ ao cap, r = .tuple #[St.val ⟨e.nm, e.ty, e.en - now, e.dt⟩ ao cap, .int .i64 e.rk, .bool true] ∧ UpdQ B w w' ∧ Ca B w' t (bumpC c (fold nm) ty) ∧ DR w' ao e.dt) := by
  by_cases hnow : 0 ≤ now ∧ now ≤ 1099511627776
  case neg => rw [hitB, if_neg hnow] at hh; cases hh
  have h3h := Lib.hid (show (decide (0 ≤ now) && decide (now ≤ 1099511627776)) = true by simp [hnow])
  have hko : KOk (fold nm) ty := ⟨by rw [fold_len]; unfold maxLen; omega, hty⟩
  obtain ⟨F, hF⟩ : ∃ F, fold nm = F := ⟨_, rfl⟩
  rw [hitB, if_pos hnow, hF] at hh
  rw [hF]
  have hFh := Lib.hid hF
  rw [hF] at hko
  have hlk := h.look F ty
  have hnq := Lib.hid (h.neq hok.keys)
  have hIh := Lib.hid h
  have hokh := Lib.hid hok
  have htl := blk_lt h.blk
  obtain ⟨cq, hcq⟩ : ∃ cq, atQ (M.map EM.ke) F ty = cq := ⟨_, rfl⟩
  have hcqh := Lib.hid hcq
  rw [hcq] at hlk
  obtain ⟨c0, c1, c2, c3⟩ := set4 h.blk
  have hn0 := hok.n0
  clear hcq hF h hok
  rcases hlk with ⟨q1, rfl⟩ | ⟨m, hm, q1, rfl, q3, q4⟩
  · rw [q1] at hh; cases hh
  rw [q1] at hh
  have hlt : now < m.e.en ∧ m.e = e := by
    by_cases hx : now < m.e.en
    · rw [Option.filter_some, if_pos (by simpa using hx)] at hh; injection hh with hh; exact ⟨hx, hh⟩
    · exfalso; rw [Option.filter_some, if_neg (by simpa using hx)] at hh; cases hh
  obtain ⟨hlt, rfl⟩ := hlt
  have q34 := Lib.hid (And.intro q3 q4)
  have hml := blk_lt (hIh.out.ent m hm).blk
  obtain ⟨nmb, nmt⟩ := hIh.out.em hm
  have ntm : ¬ t = m.g := fun e => nmt e.symm
  have hEO := hokh.out.ent m.e (by rw [← hIh.out.abs]; exact List.mem_map.2 ⟨m, hm, rfl⟩)
  have hen := hEO.x
  have hdl : m.e.dt.length ≤ 5000 := by have := hEO.dl; omega
  have hw1 : wrap64 (c.N + 1) = c.N + 1 := by unfold wrap64; omega
  have hw2 : wrap64 (m.e.en - now) = m.e.en - now := by unfold wrap64; omega
  clear hh q1 q3 q4 hEO
  go_enter Try.func36, Try.ntmps36
  go_wp2_with (first
    | (go_at_call 57; (with_reducible refine (within_w now 0 1099511627776 _).use ?_); rintro v w3 ⟨rfl, hu3⟩; rw [h3h.out]; have hu03 : Upd0 w w3 := (by repeat first | with_reducible (first | exact Upd.refl _ _ | assumption | apply Upd.drew | apply Upd.alloc) | refine Upd0.tr ?_ (by with_reducible assumption) | refine Upd.setCell ?_ (fun h => absurd h (by first | exact Nat.lt_irrefl _ | (simp only []; omega))) _); have y3 := Lib.hid (hu3.block (fun h => h) (alloc_last _ _ w.heap.size rfl)); obtain ⟨z0, z1, z2, z3⟩ := set4 (hu03.block (fun h => h) hIh.out.blk); have htl3 := Nat.lt_of_lt_of_le htl hu03.size)
    | ((with_reducible refine wp_serial3_1 0 [] [0, 1, 2, 3, 4] 5 [6, 7, 8, 9, 10, 11, 12, 13] [_, _, _, _, _] _ [_, _, _, _, _, _, _, _] (by kernel_rfl) (by decide +kernel) rfl rfl rfl ⟨Nat.zero_le _, fun s hs => absurd hs List.not_mem_nil⟩ (by repeat with_reducible (first | apply NoBad.then | apply NoBad.inBlock | apply NoBad.jump | exact NoBad.rets)) ?_); simp only [List.getElem_toArray, List.getElem_cons_succ, List.getElem_cons_zero])
    | ((with_reducible refine SM.wp_serial3_2 79 [3] [0, 1, 2] 3 [4, 5, 6, 7] 8 [9, 10, 11, 12] [_, _, _] _ [_, _, _, _] _ [_, _, _, _] (by kernel_rfl) (by decide +kernel) rfl rfl rfl rfl rfl (by refine ⟨by first | decide | simp, fun s hs => ?_⟩; simp only [List.mem_cons, List.not_mem_nil, or_false] at hs; rcases hs with rfl <;> first | rfl | simp [go_sem, SM.isI, Act.eval]) (by repeat with_reducible (first | apply NoBad.then | apply NoBad.inBlock | apply NoBad.jump | exact NoBad.rets)) ?_); simp only [List.getElem_toArray, List.getElem_cons_succ, List.getElem_cons_zero])
    | (with_reducible refine And.intro (And.intro (Ext.refl _) rfl) ?_)
    | (with_reducible refine And.intro (And.intro hE9 rfl) ?_)
    | (go_at_call 66; (with_reducible refine (fold_w nm hn _).use ?_); rintro v w4 ⟨rfl, hu4⟩; rw [hFh.out]; have y4 := Lib.hid (hu4.block (fun h => h) y3.out); have hu04 : Upd0 w w4 := (by repeat first | with_reducible (first | exact Upd.refl _ _ | assumption | apply Upd.drew | apply Upd.alloc) | refine Upd0.tr ?_ (by with_reducible assumption) | refine Upd.setCell ?_ (fun h => absurd h (by first | exact Nat.lt_irrefl _ | (simp only []; omega))) _); have hbl := blk_lt y4.out; have hE4 := ent7 ((hIh.out.to0 hu04).ent m hm); obtain ⟨e0, e1, e2, e3, e4, e5, e6⟩ := hE4; have ef6 := blk_frz ((hIh.out.to0 hu04).ent m hm).blk 6; have hml4 := Nat.lt_of_lt_of_le hml hu04.size; have hz4 := set4 (hu04.block (fun h => h) hIh.out.blk); obtain ⟨z40, z41, z42, z43⟩ := hz4; have zf4 := blk_frz (hu04.block (fun h => h) hIh.out.blk) 3; have htl4 := Nat.lt_of_lt_of_le htl hu04.size; have nb1 : ¬ w.heap.size = t := (by omega); have nb2 : ¬ w.heap.size = m.g := (by omega); have hY := Lib.hid (getY (s := #[.string ⟨m.e.nm.toArray⟩, .int .i64 m.e.ty, .int .i64 m.e.tl, .slice m.ao m.e.dt.length m.cap]) (hIh.out.to0 hu04) hm y4.out nb1 nb2); clear z0 z1 z2 z3)
    | (with_reducible refine And.intro hu4.ext ?_)
    | (at_lookup; refine wpList_lookQ _ rfl _ _ rfl bm (M.map EM.ke) rfl (OwnsQ.to hIh.out.own (hu04.keep bm hIh.out.own.lt (fun h => h))) hnq.out F ty rfl hko (some m.g) hcqh.out ?_; simp only [mkQ, Option.isSome_some])
    | (go_at_call 60; refine (clones_w m.ao m.cap m.e.dt (gY w4 t m.g c.N #[.string ⟨m.e.nm.toArray⟩, .int .i64 m.e.ty, .int .i64 m.e.tl, .slice m.ao m.e.dt.length m.cap]) hY.out.2.1 hdl).use ?_; rintro v w9 ⟨ao', cap', rfl, hs9, hu9, hn9⟩; have p13 := Lib.hid (hu9.block (fun h => h) hY.out.2.2.1); have p8 := Lib.hid (hu9.block (fun h => h) hY.out.2.2.2.1); have pt := Lib.hid (hu9.block (fun h => h) hY.out.2.2.2.2.1); have pg := Lib.hid (hu9.block (fun h => h) hY.out.2.2.2.2.2); have s13 := set4 p13.out; obtain ⟨r0, r1, r2, r3⟩ := s13; have r4 := blk_frz p13.out 2; have r5 := blk_frz p13.out 3; have s8 := set4 p8.out; obtain ⟨t0, t1, t2, t3⟩ := s8; have t4 := blk_frz p8.out 0; have t5 := blk_frz p8.out 1; have t6 := blk_frz p8.out 2; have t7 := blk_frz p8.out 3; have sg := blk_cell pg.out 4; simp only [CE.cells] at sg; have sg4 : w9.cell? ⟨m.g, 4, none⟩ = some (.int .i64 m.e.rk) := sg; have hz9 : w4.heap.size < w9.heap.size := blk_lt p13.out; have hml9 := blk_lt pg.out; have hb9 := blk_lt p8.out; have hE9 : Ext (((w4.setCell ⟨t, 3, none⟩ (.int .i64 (c.N + 1))).setCell ⟨m.g, 6, none⟩ (.int .i64 (c.N + 1))).alloc (.cells #[.string ⟨m.e.nm.toArray⟩, .int .i64 m.e.ty, .int .i64 m.e.tl, .slice m.ao m.e.dt.length m.cap] 60 (0, 0))).drew w9 := hu9.ext; have hs9h := Lib.hid hs9; have hu9h := Lib.hid hu9; have hn9h := Lib.hid hn9; clear hs9 hu9 hn9 sg)
    | (with_reducible refine wp_serial2 4 5 [0, 1, 2, 3, 5, 4, 6, 7] [_, _, _, _, _, _, _, _] (by kernel_rfl) (by decide +kernel) rfl (by repeat with_reducible (first | apply NoBad.then | apply NoBad.inBlock | apply NoBad.jump | exact NoBad.rets)) ?_ ?_)
    | (with_reducible refine wp_serial (by kernel_rfl) (by kernel_rfl) (by repeat with_reducible (first | apply NoBad.then | apply NoBad.inBlock | apply NoBad.jump | exact NoBad.rets)) ?_) | fail)
  all_goals
    obtain ⟨L1, L2⟩ := get_last p8.out (show ¬ w.heap.size = w4.heap.size by omega) (.int .i64 (m.e.en - now)) (.slice ao' m.e.dt.length cap') (.string ⟨m.e.nm.toArray⟩) (.int .i64 m.e.ty) (.int .i64 (m.e.en - now)) (.slice ao' m.e.dt.length cap')
    refine bodyPost_ret (res_cget rfl rfl rfl L2) rfl ?_
    revert L1
    generalize ((((((w9.setCell ⟨w4.heap.size, 2, none⟩ (.int .i64 (m.e.en - now))).setCell ⟨w4.heap.size, 3, none⟩ (.slice ao' m.e.dt.length cap')).setCell ⟨w.heap.size, 0, none⟩ (.string ⟨m.e.nm.toArray⟩)).setCell ⟨w.heap.size, 1, none⟩ (.int .i64 m.e.ty)).setCell ⟨w.heap.size, 2, none⟩ (.int .i64 (m.e.en - now))).setCell ⟨w.heap.size, 3, none⟩ (.slice ao' m.e.dt.length cap')).drew = X
    intro L1
    have hUY : Upd (fun b => b = t ∨ b = m.g) w4 w9 := Upd.trans hY.out.1 hu9h.out (fun _ _ h => h.elim)
    have U2 : Upd (fun b => b = t ∨ b = m.g) w X := Upd.trans (hu04.mono (fun _ _ h => h.elim)) (Upd.trans (S := fun b => b = t ∨ b = m.g ∨ b = w.heap.size) (S' := fun b => b = w4.heap.size ∨ b = w.heap.size) (hUY.mono (fun n _ h => h.elim .inl (fun h => .inr (.inl h)))) L1 (fun n hn hs => by rcases hs with hs | hs; omega; exact .inr (.inr hs))) (fun n hn hs => by rcases hs with hs | hs | hs; exact .inl hs; exact .inr hs; omega)
    obtain ⟨f1, f2⟩ := get_fin hIh.out hokh.out.keys hm q34.out.1 q34.out.2 U2 (L1.block (by rintro (h | h) <;> omega) pt.out) (L1.block (by rintro (h | h) <;> omega) pg.out)
    refine ⟨ao', cap', rfl, f2, ⟨bm, _, f1⟩, sr_updN hs9h.out L1 (fun g o e hs => ?_), fun g o e => ?_⟩
    · have := (hn9h.out g o e).1
      have := blk_lt (hY.out.2.2.1)
      rcases hs with hs | hs <;> omega
    · obtain ⟨k1, cur, k2⟩ := hn9h.out g o e
      have := blk_lt (hY.out.2.2.1)
      exact ⟨cur, (0, 0), L1.block (by rintro (hs | hs) <;> omega) k2⟩
end Go.Proofs.Ytijmbpokglohbaa
