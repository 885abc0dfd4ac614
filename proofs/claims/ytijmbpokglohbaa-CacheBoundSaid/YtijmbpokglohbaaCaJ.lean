/-
  The program's cache: Get.
-/
import Derived.Test.YtijmbpokglohbaaCaI
namespace Go.Proofs.Ytijmbpokglohbaa
open Go.RowKit Go.Maps
set_option linter.unusedSimpArgs false
set_option linter.unusedVariables false
variable {B : Nat}
theorem cput_w (t : Nat) (c : CS) (s : St) (ao : Option Addr) (cap : Nat) (rk now : Int) (w : World) (hok : COk c) (hN : c.N ≤ 1000000) (hf : fewS s = true) (hB : B ≤ w.heap.size) (h : Ca B w t c) (hS : Stay B w ao s.dt) :
    Calls Try.prog 34 #[.pointer (some ⟨t, 0, none⟩), s.val ao cap, .int .i64 rk, .int .i64 now] w (Rets fun r w' => r = .int .i64 (putI c s rk now) ∧ UpdQ B w w' ∧ Ca B w' t (putS c s rk now)) := by
  cases hb : putB s rk now with
  | true =>
    obtain ⟨bm, M, h⟩ := h
    exact cput_go t bm c M s ao cap rk now w hok hN hf hb hB h hS
  | false =>
    refine (cput_bad t s ao cap rk now w hf hb hS.sr).use fun v w' ⟨e, hu⟩ => ⟨?_, UpdQ.of0 hu, ?_⟩
    · rw [e, putI, if_neg (by rw [hb]; decide)]
    · rw [putS, if_neg (by rw [hb]; decide)]; exact h.to0 hu
def bumpM (nm : Bs) (ty N : Int) (m : EM) : EM := { m with e := bumpE nm ty N m.e }
theorem bumpM_ke (nm : Bs) (ty N : Int) (m : EM) : (bumpM nm ty N m).ke = m.ke := by
  unfold bumpM EM.ke
  simp only [(bumpE_nm nm ty N m.e).1, (bumpE_nm nm ty N m.e).2]
theorem g_only : ∀ {M : List EM}, (M.Pairwise fun a b => a.g ≠ b.g) → ∀ {x m : EM}, x ∈ M → m ∈ M → x.g = m.g → x = m
  | [], _, _, _, hx, _, _ => by cases hx
  | a :: M, h, x, m, hx, hm, e => by
    obtain ⟨h1, h2⟩ := List.pairwise_cons.1 h
    rcases List.mem_cons.1 hx with kx | kx <;> rcases List.mem_cons.1 hm with km | km
    · rw [kx, km]
    · rw [kx] at e; exact absurd e (h1 m km)
    · rw [km] at e; exact absurd e.symm (h1 x kx)
    · exact g_only h2 kx km e
theorem get_fin {w w' : World} {t bm : Nat} {room most N : Int} {L : List CE} {M : List EM} (h : CaIs B w t bm room most N L M) (hk : KNe L) {m : EM} (hm : m ∈ M) {nm : Bs} {ty : Int} (h1 : m.e.nm = nm) (h2 : m.e.ty = ty)
    (U : Upd (fun b => b = t ∨ b = m.g) w w') (ht : w'.heap[t]? = some (.cells #[.int .i64 room, .int .i64 most, .map (some bm), .int .i64 (N + 1)] 99 (0, 0))) (hg : w'.heap[m.g]? = some (.cells ({ m.e with us := N + 1 }.cells m.ao m.cap) 106 (0, 0))) :
    CaIs B w' t bm room most (N + 1) (L.map (bumpE nm ty N)) (M.map (bumpM nm ty N)) ∧ UpdQ B w w' := by
  have hkm : isK nm ty m.e = true := isK_iff.2 ⟨h1, h2⟩
  have hstr : ∀ g cur fz, w.heap[g]? = some (.cells cur 9 fz) → ¬ (g = t ∨ g = m.g) := by
    intro g cur fz hg hs
    rcases hs with e | e
    · rw [e, h.blk] at hg
      injection hg with hg; injection hg with _ hg _
      exact absurd hg (by decide)
    · rw [e, (h.ent m hm).blk] at hg
      injection hg with hg; injection hg with _ hg _
      exact absurd hg (by decide)
  refine ⟨⟨ht, ?_, ?_, ?_, ?_, h.lo.1, h.lo.2.1, ?_⟩, U.mono fun n hn hs => ?_⟩
  · rw [List.map_map, show (EM.ke ∘ bumpM nm ty N) = EM.ke from funext fun x => bumpM_ke nm ty N x]
    exact h.own.to (U.keep bm h.own.lt (by rintro (e | e); exact h.tm e.symm; exact (h.em hm).1 e.symm))
  · rw [← h.abs, List.map_map, List.map_map]; rfl
  · intro y hy
    obtain ⟨x, hx, rfl⟩ := List.mem_map.1 hy
    have hxe := h.ent x hx
    by_cases hxm : x = m
    · subst hxm
      refine ⟨?_, ?_⟩
      · show w'.heap[x.g]? = some (.cells ((bumpE nm ty N x.e).cells x.ao x.cap) _ _)
        rw [bumpE, if_pos hkm]; exact hg
      · have : (bumpM nm ty N x).e.dt = x.e.dt := by simp only [bumpM, bumpE]; split <;> rfl
        rw [this]
        exact hxe.dat.to U hstr
    · have hxk : isK nm ty x.e = false := by
        cases hb : isK nm ty x.e
        · rfl
        · rw [isK_iff] at hb
          exact absurd (keyOnly (h.neq hk) hm hx ⟨hb.1.trans h1.symm, hb.2.trans h2.symm⟩) hxm
      have hxx : bumpM nm ty N x = x := by
        show { x with e := bumpE nm ty N x.e } = x
        rw [bumpE, if_neg (by rw [hxk]; decide)]
      rw [hxx]
      refine hxe.to U ?_ hstr
      rintro (e | e)
      · exact (h.em hx).2 e
      · exact hxm (g_only h.dg hx hm e)
  · rw [List.pairwise_map]; exact h.dg
  · intro y hy
    obtain ⟨x, hx, rfl⟩ := List.mem_map.1 hy
    exact h.lo.2.2 x hx
  · rcases hs with e | e
    · subst e; exact ⟨h.lo.1, by rw [h.blk]; rfl⟩
    · subst e; exact ⟨h.lo.2.2 m hm, by rw [(h.ent m hm).blk]; rfl⟩
def GetP (B : Nat) (w : World) (t : Nat) (c : CS) (nm : Bs) (ty now : Int) (r : Value) (w' : World) : Prop := match hitB c nm ty now with
  | none => r = .tuple #[.agg #[.string ⟨([] : Bs).toArray⟩, .int .i64 0, .int .i64 0, .slice none 0 0], .int .i64 0, .bool false] ∧ Upd0 w w'
  | some e => ∃ ao cap, r = .tuple #[St.val ⟨e.nm, e.ty, e.en - now, e.dt⟩ ao cap, .int .i64 e.rk, .bool true] ∧ UpdQ B w w' ∧ Ca B w' t (bumpC c (fold nm) ty) ∧ DR w' ao e.dt
theorem res_cget {tmps : Array Value} {b : Nat} {v9 v10 x0 x1 x2 x3 : Value} (h8 : tmps.getD 8 undef = .pointer (some ⟨b, 0, none⟩)) (h9 : tmps.getD 9 undef = v9) (h10 : tmps.getD 10 undef = v10) {W : World}
    (r : W.heap[b]? = some (.cells #[x0, x1, x2, x3] 60 (0, 0))) : (results Try.f36 tmps).run Try.prog W = .ok (.tuple #[.agg #[x0, x1, x2, x3], v9, v10]) W := by
  obtain ⟨e0, e1, e2, e3⟩ := set4 r
  have g8 : tmps[8]?.getD undef = .pointer (some ⟨b, 0, none⟩) := by rw [← Array.getD_eq_getD_getElem?]; exact h8
  have g9 : tmps[9]?.getD undef = v9 := by rw [← Array.getD_eq_getD_getElem?]; exact h9
  have g10 : tmps[10]?.getD undef = v10 := by rw [← Array.getD_eq_getD_getElem?]; exact h10
  simp [results, Try.results36, g8, g9, g10, go_sem, e0, e1, e2, e3]
theorem put4 {w : World} {b : Nat} {a0 a1 a2 a3 : Value} {t : TypeId} (h : w.heap[b]? = some (.cells #[a0, a1, a2, a3] t (0, 0))) (x0 x1 x2 x3 : Value) : ((((w.setCell ⟨b, 0, none⟩ x0).setCell ⟨b, 1, none⟩ x1).setCell ⟨b, 2, none⟩ x2).setCell ⟨b, 3, none⟩ x3).heap[b]? = some (.cells #[x0, x1, x2, x3] t (0, 0)) := by
  simpa using blk_set (blk_set (blk_set (blk_set h 0 x0) 1 x1) 2 x2) 3 x3
set_option maxRecDepth 100000 in
set_option maxHeartbeats 4000000 in
theorem cget_no (t bm : Nat) (c : CS) (M : List EM) (nm : Bs) (ty now : Int) (w : World) (hok : COk c) (hn : nm.length ≤ 70000) (hty : (Lit.int .i64 ty).wf = true) (h : CaIs B w t bm c.room c.most c.N c.L M) (hh : hitB c nm ty now = none) :
    Calls Try.prog 36 #[.pointer (some ⟨t, 0, none⟩), .string ⟨nm.toArray⟩, .int .i64 ty, .int .i64 now] w (Rets fun r w' => r = .tuple #[.agg #[.string ⟨([] : Bs).toArray⟩, .int .i64 0, .int .i64 0, .slice none 0 0], .int .i64 0, .bool false] ∧ Upd0 w w') := by
  by_cases hnow : 0 ≤ now ∧ now ≤ 1099511627776
  · have h3h := Lib.hid (show (decide (0 ≤ now) && decide (now ≤ 1099511627776)) = true by simp [hnow])
    have hko : KOk (fold nm) ty := ⟨by rw [fold_len]; unfold maxLen; omega, hty⟩
    obtain ⟨F, hF⟩ : ∃ F, fold nm = F := ⟨_, rfl⟩
    rw [hitB, if_pos hnow, hF] at hh
    have hFh := Lib.hid hF
    rw [hF] at hko
    have hlk := h.look F ty
    have hnq := Lib.hid (h.neq hok.keys)
    have hIh := Lib.hid h
    have htl := blk_lt h.blk
    obtain ⟨cq, hcq⟩ : ∃ cq, atQ (M.map EM.ke) F ty = cq := ⟨_, rfl⟩
    have hcqh := Lib.hid hcq
    rw [hcq] at hlk
    obtain ⟨c0, c1, c2, c3⟩ := set4 h.blk
    clear hcq hF h hok
    rcases hlk with ⟨q1, rfl⟩ | ⟨m, hm, q1, rfl, q3, q4⟩
    · clear hh q1
      go_enter Try.func36, Try.ntmps36
      go_wp2_with (first
        | (go_at_call 57; (with_reducible refine (within_w now 0 1099511627776 _).use ?_); rintro v w3 ⟨rfl, hu3⟩; rw [h3h.out]; have hu03 : Upd0 w w3 := (by repeat first | with_reducible (first | exact Upd.refl _ _ | assumption | apply Upd.drew | apply Upd.alloc) | refine Upd0.tr ?_ (by with_reducible assumption) | refine Upd.setCell ?_ (fun h => absurd h (by first | exact Nat.lt_irrefl _ | (simp only []; omega))) _); have y3 := Lib.hid (hu3.block (fun h => h) (alloc_last _ _ w.heap.size rfl)); obtain ⟨z0, z1, z2, z3⟩ := set4 (hu03.block (fun h => h) hIh.out.blk); have htl3 := Nat.lt_of_lt_of_le htl hu03.size)
        | ((with_reducible refine wp_serial3_1 0 [] [0, 1, 2, 3, 4] 5 [6, 7, 8, 9, 10, 11, 12, 13] [_, _, _, _, _] _ [_, _, _, _, _, _, _, _] (by kernel_rfl) (by decide +kernel) rfl rfl rfl ⟨Nat.zero_le _, fun s hs => absurd hs List.not_mem_nil⟩ (by repeat with_reducible (first | apply NoBad.then | apply NoBad.inBlock | apply NoBad.jump | exact NoBad.rets)) ?_); simp only [List.getElem_toArray, List.getElem_cons_succ, List.getElem_cons_zero])
        | (go_at_call 66; (with_reducible refine (fold_w nm hn _).use ?_); rintro v w4 ⟨rfl, hu4⟩; rw [hFh.out]; have y4 := Lib.hid (hu4.block (fun h => h) y3.out); have hu04 : Upd0 w w4 := (by repeat first | with_reducible (first | exact Upd.refl _ _ | assumption | apply Upd.drew | apply Upd.alloc) | refine Upd0.tr ?_ (by with_reducible assumption) | refine Upd.setCell ?_ (fun h => absurd h (by first | exact Nat.lt_irrefl _ | (simp only []; omega))) _); have y44 := set4 y4.out; obtain ⟨x0, x1, x2, x3⟩ := y44; have x4 := blk_frz y4.out 0; have x5 := blk_frz y4.out 1; have x6 := blk_frz y4.out 2; have x7 := blk_frz y4.out 3; have hbl := blk_lt y4.out)
        | (with_reducible refine And.intro hu4.ext ?_)
        | (at_lookup; refine wpList_lookQ _ rfl _ _ rfl bm (M.map EM.ke) rfl (OwnsQ.to hIh.out.own (hu04.keep bm hIh.out.own.lt (fun h => h))) hnq.out F ty rfl hko none hcqh.out ?_; simp only [mkQ, Option.isSome_none])
        | (with_reducible refine wp_serial (by kernel_rfl) (by kernel_rfl) (by repeat with_reducible (first | apply NoBad.then | apply NoBad.inBlock | apply NoBad.jump | exact NoBad.rets)) ?_) | fail)
      all_goals (refine bodyPost_ret (res_cget rfl rfl rfl (put4 y4.out _ _ _ _)) rfl ⟨rfl, (by repeat first | with_reducible (first | exact Upd.refl _ _ | assumption | apply Upd.drew | apply Upd.alloc) | refine Upd0.tr ?_ (by with_reducible assumption) | refine Upd.setCell ?_ (fun h => absurd h (by first | exact Nat.lt_irrefl _ | (simp only []; omega))) _)⟩)
    · have hov : m.e.en ≤ now := by
        rw [q1] at hh
        by_cases hx : now < m.e.en
        · simp [hx] at hh
          exact hh
        · omega
      have hml := blk_lt (hIh.out.ent m hm).blk
      clear hh q1 q3 q4
      go_enter Try.func36, Try.ntmps36
      go_wp2_with (first
        | (go_at_call 57; (with_reducible refine (within_w now 0 1099511627776 _).use ?_); rintro v w3 ⟨rfl, hu3⟩; rw [h3h.out]; have hu03 : Upd0 w w3 := (by repeat first | with_reducible (first | exact Upd.refl _ _ | assumption | apply Upd.drew | apply Upd.alloc) | refine Upd0.tr ?_ (by with_reducible assumption) | refine Upd.setCell ?_ (fun h => absurd h (by first | exact Nat.lt_irrefl _ | (simp only []; omega))) _); have y3 := Lib.hid (hu3.block (fun h => h) (alloc_last _ _ w.heap.size rfl)); obtain ⟨z0, z1, z2, z3⟩ := set4 (hu03.block (fun h => h) hIh.out.blk); have htl3 := Nat.lt_of_lt_of_le htl hu03.size)
        | ((with_reducible refine wp_serial3_1 0 [] [0, 1, 2, 3, 4] 5 [6, 7, 8, 9, 10, 11, 12, 13] [_, _, _, _, _] _ [_, _, _, _, _, _, _, _] (by kernel_rfl) (by decide +kernel) rfl rfl rfl ⟨Nat.zero_le _, fun s hs => absurd hs List.not_mem_nil⟩ (by repeat with_reducible (first | apply NoBad.then | apply NoBad.inBlock | apply NoBad.jump | exact NoBad.rets)) ?_); simp only [List.getElem_toArray, List.getElem_cons_succ, List.getElem_cons_zero])
        | (go_at_call 66; (with_reducible refine (fold_w nm hn _).use ?_); rintro v w4 ⟨rfl, hu4⟩; rw [hFh.out]; have y4 := Lib.hid (hu4.block (fun h => h) y3.out); have hu04 : Upd0 w w4 := (by repeat first | with_reducible (first | exact Upd.refl _ _ | assumption | apply Upd.drew | apply Upd.alloc) | refine Upd0.tr ?_ (by with_reducible assumption) | refine Upd.setCell ?_ (fun h => absurd h (by first | exact Nat.lt_irrefl _ | (simp only []; omega))) _); have y44 := set4 y4.out; obtain ⟨x0, x1, x2, x3⟩ := y44; have x4 := blk_frz y4.out 0; have x5 := blk_frz y4.out 1; have x6 := blk_frz y4.out 2; have x7 := blk_frz y4.out 3; have hbl := blk_lt y4.out; have hE4 := ent7 ((hIh.out.to0 hu04).ent m hm); obtain ⟨e0, e1, e2, e3, e4, e5, e6⟩ := hE4; have hml4 := Nat.lt_of_lt_of_le hml hu04.size)
        | (with_reducible refine And.intro hu4.ext ?_)
        | (at_lookup; refine wpList_lookQ _ rfl _ _ rfl bm (M.map EM.ke) rfl (OwnsQ.to hIh.out.own (hu04.keep bm hIh.out.own.lt (fun h => h))) hnq.out F ty rfl hko (some m.g) hcqh.out ?_; simp only [mkQ, Option.isSome_some])
        | (with_reducible refine wp_serial (by kernel_rfl) (by kernel_rfl) (by repeat with_reducible (first | apply NoBad.then | apply NoBad.inBlock | apply NoBad.jump | exact NoBad.rets)) ?_) | fail)
      all_goals (refine bodyPost_ret (res_cget rfl rfl rfl (put4 y4.out _ _ _ _)) rfl ⟨rfl, (by repeat first | with_reducible (first | exact Upd.refl _ _ | assumption | apply Upd.drew | apply Upd.alloc) | refine Upd0.tr ?_ (by with_reducible assumption) | refine Upd.setCell ?_ (fun h => absurd h (by first | exact Nat.lt_irrefl _ | (simp only []; omega))) _)⟩)
  · have h3h := Lib.hid (show (decide (0 ≤ now) && decide (now ≤ 1099511627776)) = false by
      cases hb : decide (0 ≤ now) && decide (now ≤ 1099511627776)
      · rfl
      · exact absurd (by simpa using hb) hnow)
    clear hh hnow
    go_enter Try.func36, Try.ntmps36
    go_wp2_with (first
      | (go_at_call 57; (with_reducible refine (within_w now 0 1099511627776 _).use ?_); rintro v w3 ⟨rfl, hu3⟩; rw [h3h.out]; have hu03 : Upd0 w w3 := (by repeat first | with_reducible (first | exact Upd.refl _ _ | assumption | apply Upd.drew | apply Upd.alloc) | refine Upd0.tr ?_ (by with_reducible assumption) | refine Upd.setCell ?_ (fun h => absurd h (by first | exact Nat.lt_irrefl _ | (simp only []; omega))) _); have y4 := Lib.hid (hu3.block (fun h => h) (alloc_last _ _ w.heap.size rfl)); have y44 := set4 y4.out; obtain ⟨x0, x1, x2, x3⟩ := y44; have x4 := blk_frz y4.out 0; have x5 := blk_frz y4.out 1; have x6 := blk_frz y4.out 2; have x7 := blk_frz y4.out 3; have hbl := blk_lt y4.out)
      | (with_reducible refine wp_serial (by kernel_rfl) (by kernel_rfl) (by repeat with_reducible (first | apply NoBad.then | apply NoBad.inBlock | apply NoBad.jump | exact NoBad.rets)) ?_) | fail)
    all_goals (refine bodyPost_ret (res_cget rfl rfl rfl (put4 y4.out _ _ _ _)) rfl ⟨rfl, (by repeat first | with_reducible (first | exact Upd.refl _ _ | assumption | apply Upd.drew | apply Upd.alloc) | refine Upd0.tr ?_ (by with_reducible assumption) | refine Upd.setCell ?_ (fun h => absurd h (by first | exact Nat.lt_irrefl _ | (simp only []; omega))) _)⟩)
set_option maxRecDepth 100000 in
set_option maxHeartbeats 4000000 in
theorem cget_nil (nm : Bs) (ty now : Int) (w : World) :
    Calls Try.prog 36 #[.pointer none, .string ⟨nm.toArray⟩, .int .i64 ty, .int .i64 now] w (Rets fun r w' => r = .tuple #[.agg #[.string ⟨([] : Bs).toArray⟩, .int .i64 0, .int .i64 0, .slice none 0 0], .int .i64 0, .bool false] ∧ Upd0 w w') := by
  go_enter Try.func36, Try.ntmps36
  go_wp2_with (first | (with_reducible refine wp_serial (by kernel_rfl) (by kernel_rfl) (by repeat with_reducible (first | apply NoBad.then | apply NoBad.inBlock | apply NoBad.jump | exact NoBad.rets)) ?_) | fail)
  all_goals (refine bodyPost_ret (res_cget rfl rfl rfl (alloc_last w _ w.heap.size rfl)) rfl ⟨rfl, (by repeat first | with_reducible (first | exact Upd.refl _ _ | assumption | apply Upd.drew | apply Upd.alloc) | refine Upd0.tr ?_ (by with_reducible assumption) | refine Upd.setCell ?_ (fun h => absurd h (by first | exact Nat.lt_irrefl _ | (simp only []; omega))) _)⟩)
end Go.Proofs.Ytijmbpokglohbaa
