/-
  The document's cache: Get.
-/
import Derived.Test.YtijmbpokglohbaaCaU
import Derived.RegionTactic
import Derived.BigRegion
namespace Go.Proofs.Ytijmbpokglohbaa
open Go.RowKit Go.Maps
set_option linter.unusedSimpArgs false
set_option linter.unusedVariables false
variable {B : Nat}
theorem res_rget {tmps : Array Value} {b : Nat} {v9 v10 x0 x1 x2 x3 : Value} (h8 : tmps.getD 8 undef = .pointer (some ⟨b, 0, none⟩)) (h9 : tmps.getD 9 undef = v9) (h10 : tmps.getD 10 undef = v10) {W : World}
    (r : W.heap[b]? = some (.cells #[x0, x1, x2, x3] 60 (0, 0))) : (results Try.f37 tmps).run Try.prog W = .ok (.tuple #[.agg #[x0, x1, x2, x3], v9, v10]) W := by
  obtain ⟨e0, e1, e2, e3⟩ := set4 r
  have h8' : tmps[8]?.getD undef = .pointer (some ⟨b, 0, none⟩) := by rw [← Array.getD_eq_getD_getElem?]; exact h8
  have h9' : tmps[9]?.getD undef = v9 := by rw [← Array.getD_eq_getD_getElem?]; exact h9
  have h10' : tmps[10]?.getD undef = v10 := by rw [← Array.getD_eq_getD_getElem?]; exact h10
  simp [results, Try.results37, h8', h9', h10', go_sem, e0, e1, e2, e3]
theorem RcIs.tg {w : World} {t g n cap : Nat} {c : CS} {M : List RE} (h : RcIs B w t (.slice (some ⟨g, 0, none⟩) n cap) c M) : ¬ t = g := fun e => by
  obtain ⟨cur, hg⟩ := kind_row7 h.row (g := g) rfl
  rw [← e, h.blk] at hg
  injection hg with hg
  injection hg with _ hg _
  exact absurd hg (by decide)
theorem RcIs.elG {w : World} {t g : Nat} {v : Value} {c : CS} {M : List RE} (h : RcIs B w t v c M) (hv : v.ownBlock = some g) {j : Nat} {m : RE} (hm : M[j]? = some m) :
    w.cell? ⟨g, j * 7, none⟩ = some (.string ⟨m.e.nm.toArray⟩) ∧ w.cell? ⟨g, j * 7 + 1, none⟩ = some (.int .i64 m.e.ty) ∧ w.cell? ⟨g, j * 7 + 2, none⟩ = some (.int .i64 m.e.tl) ∧ w.cell? ⟨g, j * 7 + 3, none⟩ = some (.slice m.ao m.e.dt.length m.cap) ∧
    w.cell? ⟨g, j * 7 + 4, none⟩ = some (.int .i64 m.e.rk) ∧ w.cell? ⟨g, j * 7 + 5, none⟩ = some (.int .i64 m.e.en) ∧ w.cell? ⟨g, j * 7 + 6, none⟩ = some (.int .i64 m.e.us) := by
  have f := fun (i : Nat) (u : Value) (hi : i < 7) (hu : m.cells[i]? = some u) => ownsRow_cell h.row hv (j := j * 7 + i) (u := u) ((flat_get re_len M j i m hm hi).trans hu)
  exact ⟨f 0 _ (by omega) rfl, f 1 _ (by omega) rfl, f 2 _ (by omega) rfl, f 3 _ (by omega) rfl, f 4 _ (by omega) rfl, f 5 _ (by omega) rfl, f 6 _ (by omega) rfl⟩
theorem res_set {M : List RE} : ∀ {k : Nat} {m : RE}, M[k]? = some m → ∀ u : Int, res (M.set k { m with e := { m.e with us := u } }) = (res M).set (k * 7 + 6) (.int .i64 u) := by
  induction M with
  | nil => intro k m h; simp at h
  | cons a M ih =>
    intro k m h u
    cases k with
    | zero =>
      simp only [List.getElem?_cons_zero, Option.some.injEq] at h
      subst h
      simp [res, RE.cells]
    | succ k =>
      have h' : M[k]? = some m := by simpa using h
      have e := ih h' u
      have e1 : res (a :: M) = a.cells ++ res M := rfl
      have e2 : res ((a :: M).set (k + 1) { m with e := { m.e with us := u } }) = a.cells ++ res (M.set k { m with e := { m.e with us := u } }) := rfl
      rw [e1, e2, e, List.set_append_right _ _ (by rw [re_len]; omega), re_len]
      congr 2
      omega
/-- an entry is used -/
theorem RcIs.bump {w : World} {t g cap k : Nat} {c : CS} {M : List RE} {m : RE} (h : RcIs B w t (.slice (some ⟨g, 0, none⟩) M.length cap) c M) (hk : M[k]? = some m) :
    RcIs B ((w.setCell ⟨t, 3, none⟩ (.int .i64 (c.N + 1))).setCell ⟨g, k * 7 + 6, none⟩ (.int .i64 (c.N + 1))) t (.slice (some ⟨g, 0, none⟩) M.length cap) { c with N := c.N + 1, L := c.L.set k { m.e with us := c.N + 1 } } (M.set k { m with e := { m.e with us := c.N + 1 } }) ∧
    UpdC B w ((w.setCell ⟨t, 3, none⟩ (.int .i64 (c.N + 1))).setCell ⟨g, k * 7 + 6, none⟩ (.int .i64 (c.N + 1))) := by
  obtain ⟨h1, h2⟩ := h.putN (c.N + 1)
  obtain ⟨cur, hg⟩ := kind_row7 h1.row (g := g) rfl
  have hgt : ¬ t = g := fun e => by
    rw [← e, h1.blk] at hg
    injection hg with hg
    injection hg with _ hg _
    exact absurd hg (by decide)
  obtain ⟨X, hX⟩ : ∃ X, w.setCell ⟨t, 3, none⟩ (.int .i64 (c.N + 1)) = X := ⟨_, rfl⟩
  rw [hX] at h1 h2 hg ⊢
  have hset : Upd (fun n => n = g) X (X.setCell ⟨g, k * 7 + 6, none⟩ (.int .i64 (c.N + 1))) := (Upd.refl (fun n => n = g) X).setCell (p := ⟨g, k * 7 + 6, none⟩) (fun _ => rfl) _
  have hab : (M.set k { m with e := { m.e with us := c.N + 1 } }).map (·.e) = c.L.set k { m.e with us := c.N + 1 } := by
    rw [List.map_set, show M.map (·.e) = c.L from h1.abs]
  refine ⟨⟨hset.block hgt h1.blk, ?_, hab, fun x hx => ?_, h1.lo⟩, h2.tr (hset.mono fun n hn e => ?_)⟩
  · rw [List.length_set, res_set hk]
    exact ownsRow_set1 h1.row _ _
  · have hstr : ∀ g' cur' fz, X.heap[g']? = some (.cells cur' 9 fz) → ¬ g' = g := fun g' cur' fz hg' e => by
      rw [e, hg] at hg'
      injection hg' with hg'
      injection hg' with _ hg' _
      exact absurd hg' (by decide)
    obtain ⟨j, hj⟩ := List.mem_iff_getElem?.1 hx
    rw [List.getElem?_set] at hj
    split at hj
    · split at hj
      · injection hj with hj
        subst hj
        exact (h1.dat m (List.mem_of_getElem? hk)).to hset hstr
      · cases hj
    · exact (h1.dat x (List.mem_of_getElem? hj)).to hset hstr
  · subst e
    exact ⟨h.lo.2 n rfl, by rw [hg]; rfl⟩
set_option maxRecDepth 100000 in
set_option maxHeartbeats 4000000 in
theorem rget_no (t : Nat) (c : CS) (nm : Bs) (ty now : Int) (w : World) (hok : COk c) (hn : nm.length ≤ 70000) (h : RcT B w t c) (hh : hitB c nm ty now = none) :
    Calls Try.prog 37 #[.pointer (some ⟨t, 0, none⟩), .string ⟨nm.toArray⟩, .int .i64 ty, .int .i64 now] w (Rets fun r w' => r = .tuple #[.agg #[.string ⟨([] : Bs).toArray⟩, .int .i64 0, .int .i64 0, .slice none 0 0], .int .i64 0, .bool false] ∧ Upd0 w w') := by
  obtain ⟨v, M, h⟩ := h
  obtain ⟨ao, cap, rfl⟩ := ownsRow_slice h.row
  obtain ⟨F, hF⟩ : ∃ F, fold nm = F := ⟨_, rfl⟩
  have hFh := Lib.hid hF
  have hIh := Lib.hid h
  have htl := blk_lt h.blk
  have hl := (h.len hok).1
  by_cases hx : ∃ (k : Nat) (m : RE), M[k]? = some m ∧ m.e.nm = F ∧ m.e.ty = ty
  · obtain ⟨k, m, h1, h2, h3⟩ := hx
    have a1 : c.L[k]? = some m.e := by rw [← h.abs, List.getElem?_map, h1]; rfl
    have hkl : k < M.length := (List.getElem?_eq_some_iff.1 h1).1
    have hfn := Lib.hid (fun (w' : World) (u : Upd0 w w') => rfind_hit t _ c M F ty k m w' (h.to0 u) hl h1 h2 h3 fun j x hj hk => by
      have a2 : c.L[j]? = some x.e := by rw [← h.abs, List.getElem?_map, hj]; rfl
      exact kne_get hok.keys a2 a1 (hk.1.trans h2.symm) (hk.2.trans h3.symm))
    have hov : (decide (0 ≤ now) && decide (now ≤ 1099511627776)) = false ∨ ((decide (0 ≤ now) && decide (now ≤ 1099511627776)) = true ∧ m.e.en ≤ now) := by
      by_cases hnow : 0 ≤ now ∧ now ≤ 1099511627776
      · right
        refine ⟨by simp [hnow], ?_⟩
        rw [hitB, if_pos hnow, hF, find_at hok.keys a1 ⟨h2, h3⟩] at hh
        by_cases hx : now < m.e.en
        · simp [hx] at hh; exact hh
        · omega
      · left
        cases hb : decide (0 ≤ now) && decide (now ≤ 1099511627776)
        · rfl
        · exact absurd (by simpa using hb) hnow
    obtain ⟨g, rfl⟩ := ownsRow_some h.row (by omega)
    have h1h := Lib.hid h1
    clear hh h hok hF h1 h2 h3 a1
    rcases hov with h3 | ⟨h3, hle⟩
    all_goals
      have h3h := Lib.hid h3
      clear h3
      go_enter Try.func37, Try.ntmps37
      go_wp2_with (first
        | (go_at_call 28; (with_reducible refine (rfold_w nm hn _).use ?_); rintro v w1 ⟨rfl, hu1⟩; rw [hFh.out]; have y1 := Lib.hid (hu1.block (fun h => h) (alloc_last _ _ w.heap.size rfl)))
        | (go_at_call 63; refine Calls.use (hfn.out _ (by repeat first | with_reducible (first | exact Upd.refl _ _ | assumption | apply Upd.drew | apply Upd.alloc) | refine Upd0.tr ?_ (by with_reducible assumption) | refine Upd.setCell ?_ (fun h => absurd h (by first | exact Nat.lt_irrefl _ | (simp only []; omega))) _)) ?_; rintro v w2 ⟨rfl, hu2⟩; have y2 := Lib.hid (hu2.block (fun h => h) y1.out))
        | (go_at_call 62; (with_reducible refine (rtimeC_w now _).use ?_); rintro v w3 ⟨rfl, hu3⟩; rw [h3h.out]; have hu03 : Upd0 w w3 := (by repeat first | with_reducible (first | exact Upd.refl _ _ | assumption | apply Upd.drew | apply Upd.alloc) | refine Upd0.tr ?_ (by with_reducible assumption) | refine Upd.setCell ?_ (fun h => absurd h (by first | exact Nat.lt_irrefl _ | (simp only []; omega))) _); have y4 := Lib.hid (hu3.block (fun h => h) y2.out); have y44 := set4 y4.out; obtain ⟨x0, x1, x2, x3⟩ := y44; have x4 := blk_frz y4.out 0; have x5 := blk_frz y4.out 1; have x6 := blk_frz y4.out 2; have x7 := blk_frz y4.out 3; have hbl := blk_lt y4.out; have hE3 := hIh.out.to0 hu03; obtain ⟨z0, z1, z2, z3⟩ := hE3.at; obtain ⟨e0, e1, e2, e3, e4, e5, e6⟩ := hE3.el h1h.out; have hgl := ownsRow_lt hE3.row (g := g) rfl; have htl3 := blk_lt hE3.blk; clear hE3)
        | (with_reducible refine wp_serial (by kernel_rfl) (by kernel_rfl) (by repeat with_reducible (first | apply NoBad.then | apply NoBad.inBlock | apply NoBad.jump | exact NoBad.rets)) ?_) | fail)
      all_goals (refine bodyPost_ret (res_rget rfl rfl rfl (put4 y4.out _ _ _ _)) rfl ⟨rfl, (by repeat first | with_reducible (first | exact Upd.refl _ _ | assumption | apply Upd.drew | apply Upd.alloc) | refine Upd0.tr ?_ (by with_reducible assumption) | refine Upd.setCell ?_ (fun h => absurd h (by first | exact Nat.lt_irrefl _ | (simp only []; omega))) _)⟩)
  · have hfn := Lib.hid (fun (w' : World) (u : Upd0 w w') => rfind_miss t _ c M F ty w' (h.to0 u) hl fun j x hj hk => hx ⟨j, x, hj, hk⟩)
    clear hh h hok hF hx
    go_enter Try.func37, Try.ntmps37
    go_wp2_with (first
      | (go_at_call 28; (with_reducible refine (rfold_w nm hn _).use ?_); rintro v w1 ⟨rfl, hu1⟩; rw [hFh.out]; have y1 := Lib.hid (hu1.block (fun h => h) (alloc_last _ _ w.heap.size rfl)))
      | (go_at_call 63; refine Calls.use (hfn.out _ (by repeat first | with_reducible (first | exact Upd.refl _ _ | assumption | apply Upd.drew | apply Upd.alloc) | refine Upd0.tr ?_ (by with_reducible assumption) | refine Upd.setCell ?_ (fun h => absurd h (by first | exact Nat.lt_irrefl _ | (simp only []; omega))) _)) ?_; rintro v w2 ⟨rfl, hu2⟩; have y4 := Lib.hid (hu2.block (fun h => h) y1.out); have y44 := set4 y4.out; obtain ⟨x0, x1, x2, x3⟩ := y44; have x4 := blk_frz y4.out 0; have x5 := blk_frz y4.out 1; have x6 := blk_frz y4.out 2; have x7 := blk_frz y4.out 3; have hbl := blk_lt y4.out)
      | (with_reducible refine wp_serial (by kernel_rfl) (by kernel_rfl) (by repeat with_reducible (first | apply NoBad.then | apply NoBad.inBlock | apply NoBad.jump | exact NoBad.rets)) ?_) | fail)
    all_goals (refine bodyPost_ret (res_rget rfl rfl rfl (put4 y4.out _ _ _ _)) rfl ⟨rfl, (by repeat first | with_reducible (first | exact Upd.refl _ _ | assumption | apply Upd.drew | apply Upd.alloc) | refine Upd0.tr ?_ (by with_reducible assumption) | refine Upd.setCell ?_ (fun h => absurd h (by first | exact Nat.lt_irrefl _ | (simp only []; omega))) _)⟩)
set_option maxRecDepth 100000 in
set_option maxHeartbeats 4000000 in
theorem rget_yes (t : Nat) (c : CS) (nm : Bs) (ty now : Int) (e : CE) (w : World) (hok : COk c) (hN : c.N ≤ 1000000) (hn : nm.length ≤ 70000) (hB : B ≤ w.heap.size) (h : RcT B w t c) (hh : hitB c nm ty now = some e) :
    Calls Try.prog 37 #[.pointer (some ⟨t, 0, none⟩), .string ⟨nm.toArray⟩, .int .i64 ty, .int .i64 now] w (Rets fun r w' => ∃ ao cap, r = .tuple #[St.val ⟨e.nm, e.ty, e.en - now, e.dt⟩ ao cap, .int .i64 e.rk, .bool true] ∧ UpdC B w w' ∧ RcT B w' t (bumpC c (fold nm) ty) ∧ DR w' ao e.dt) := by
  obtain ⟨v, M, h⟩ := h
  obtain ⟨ao, cap, rfl⟩ := ownsRow_slice h.row
  have hnow : 0 ≤ now ∧ now ≤ 1099511627776 := by
    by_cases hnow : 0 ≤ now ∧ now ≤ 1099511627776
    · exact hnow
    · rw [hitB, if_neg hnow] at hh; cases hh
  have h3h := Lib.hid (show (decide (0 ≤ now) && decide (now ≤ 1099511627776)) = true by simp [hnow])
  obtain ⟨F, hF⟩ : ∃ F, fold nm = F := ⟨_, rfl⟩
  rw [hitB, if_pos hnow, hF] at hh
  have hFh := Lib.hid hF
  rw [hF]
  obtain ⟨hx, hy⟩ := Option.filter_eq_some_iff.1 hh
  have hk := isK_iff.1 (List.find?_some hx)
  obtain ⟨k, hkk⟩ := List.mem_iff_getElem?.1 (List.mem_of_find?_eq_some hx)
  have hEO := hok.ent e (List.mem_of_getElem? hkk)
  have hmk : ∃ m, M[k]? = some m ∧ m.e = e := by
    rw [← h.abs, List.getElem?_map] at hkk
    cases hm : M[k]? with
    | none => rw [hm] at hkk; cases hkk
    | some m => rw [hm] at hkk; injection hkk with hkk; exact ⟨m, rfl, hkk⟩
  obtain ⟨m, hm, rfl⟩ := hmk
  have hlt : now < m.e.en := by simpa using hy
  have hkl : k < M.length := (List.getElem?_eq_some_iff.1 hm).1
  have hl := (h.len hok).1
  have hfn := Lib.hid (fun (w' : World) (u : Upd0 w w') => rfind_hit t _ c M F ty k m w' (h.to0 u) hl hm hk.1 hk.2 fun j x hj hk2 => by
    have a2 : c.L[j]? = some x.e := by rw [← h.abs, List.getElem?_map, hj]; rfl
    exact kne_get hok.keys a2 hkk (hk2.1.trans hk.1.symm) (hk2.2.trans hk.2.symm))
  have hbm := Lib.hid (show bumpC c F ty = { c with N := c.N + 1, L := c.L.set k { m.e with us := c.N + 1 } } by rw [bumpC, bump_at hok.keys hkk (isK_iff.2 hk)])
  obtain ⟨g, rfl⟩ := ownsRow_some h.row (by omega)
  have hgl := ownsRow_lt h.row (g := g) rfl
  have htl := blk_lt h.blk
  have ntg := h.tg
  have ngt : ¬ g = t := fun e => ntg e.symm
  have hIh := Lib.hid h
  have hmh := Lib.hid hm
  have hen := hEO.x
  have hd1 : 1 ≤ m.e.dt.length := (may_num hEO.may).2.1
  have hd5 : m.e.dt.length ≤ 5000 := by have := hEO.dl; omega
  have hn0 := hok.n0
  have hw1 : wrap64 (c.N + 1) = c.N + 1 := by unfold wrap64; omega
  have hw2 : wrap64 (m.e.en - now) = m.e.en - now := by unfold wrap64; omega
  clear hh hx hy hk hkk hEO hF h hok hm hnow
  go_enter Try.func37, Try.ntmps37
  go_upto_region 8 with (first
    | (go_at_call 28; (with_reducible refine (rfold_w nm hn _).use ?_); rintro v w1 ⟨rfl, hu1⟩; rw [hFh.out]; have y1 := Lib.hid (hu1.block (fun h => h) (alloc_last _ _ w.heap.size rfl)))
    | (go_at_call 63; refine Calls.use (hfn.out _ (by repeat first | with_reducible (first | exact Upd.refl _ _ | assumption | apply Upd.drew | apply Upd.alloc) | refine Upd0.tr ?_ (by with_reducible assumption) | refine Upd.setCell ?_ (fun h => absurd h (by first | exact Nat.lt_irrefl _ | (simp only []; omega))) _)) ?_; rintro v w2 ⟨rfl, hu2⟩; have y2 := Lib.hid (hu2.block (fun h => h) y1.out))
    | (go_at_call 62; (with_reducible refine (rtimeC_w now _).use ?_); rintro v w3 ⟨rfl, hu3⟩; rw [h3h.out]; have hu03 : Upd0 w w3 := (by repeat first | with_reducible (first | exact Upd.refl _ _ | assumption | apply Upd.drew | apply Upd.alloc) | refine Upd0.tr ?_ (by with_reducible assumption) | refine Upd.setCell ?_ (fun h => absurd h (by first | exact Nat.lt_irrefl _ | (simp only []; omega))) _); have y3 := Lib.hid (hu3.block (fun h => h) y2.out); have hE3 := hIh.out.to0 hu03; obtain ⟨z0, z1, z2, z3⟩ := hE3.at; obtain ⟨e0, e1, e2, e3, e4, e5, e6⟩ := hE3.el hmh.out; have zf := blk_frz hE3.blk 3; obtain ⟨cur, hcur⟩ := kind_row7 hE3.row (g := g) rfl; have ef := blk_frz hcur (k * 7 + 6); have hz3 := hu03.size; have hbp := Lib.hid (hE3.bump hmh.out); have hsr := Lib.hid (hbp.out.1.dat _ (List.mem_of_getElem? (List.getElem?_set_self hkl))).1; have nbt : ¬ w.heap.size = t := (by omega); have nbg : ¬ w.heap.size = g := (by omega); have y4 := Lib.hid ((blk_set_other nbg (k * 7 + 6) (.int .i64 (c.N + 1))).trans ((blk_set_other nbt 3 (.int .i64 (c.N + 1))).trans y3.out)); clear hE3 hcur)
    | (go_at_call 65; go_loud (refine Calls.use (copy1_w ⟨m.e.nm, m.e.ty, m.e.tl, m.e.dt⟩ m.ao m.cap hd5 hd1 _ hsr.out) ?_; rintro v w9 ⟨ao', cap', rfl, hs9, hu9, hn9⟩; simp only [St.val]; have hu9x : Upd0 ((w3.setCell ⟨t, 3, none⟩ (.int .i64 (c.N + 1))).setCell ⟨g, k * 7 + 6, none⟩ (.int .i64 (c.N + 1))) w9 := ⟨hu9.os, hu9.tape, hu9.output, hu9.size, hu9.keep⟩; have hE9 := hbp.out.1.to0 hu9x; obtain ⟨q0, q1, q2, q3⟩ := hE9.at; have hel := hE9.elG (g := g) rfl (List.getElem?_set_self hkl); simp only [] at hel; obtain ⟨r0, r1, r2, r3, r4, r5, r6⟩ := hel; have y9 := Lib.hid (hu9x.block (fun h => h) y4.out); have y99 := set4 y9.out; obtain ⟨x0, x1, x2, x3⟩ := y99; have x4 := blk_frz y9.out 0; have x5 := blk_frz y9.out 1; have x6 := blk_frz y9.out 2; have x7 := blk_frz y9.out 3; have hbl9 := blk_lt y9.out; have hz9 : w3.heap.size ≤ w9.heap.size := (by have := hu9x.size; simpa using this); have htl9 : t < w9.heap.size := (by omega); have hgl9 : g < w9.heap.size := (by omega); have hs9h := Lib.hid hs9; have hn9h := Lib.hid hn9; have hu9h := Lib.hid hu9x; have hE9h := Lib.hid hE9; clear hs9 hn9 hu9 hu9x hE9))
    | (with_reducible refine wp_serial (by kernel_rfl) (by kernel_rfl) (by repeat with_reducible (first | apply NoBad.then | apply NoBad.inBlock | apply NoBad.jump | exact NoBad.rets)) ?_) | fail)
  have hfin := Lib.hid (show ∀ X, Upd (fun b => b = w.heap.size) w9 X → UpdC B w X ∧ RcT B X t (bumpC c F ty) ∧ DR X ao' m.e.dt from fun X hX => by
    have hz := hu9h.out.size
    have hU : UpdC B w w9 := ((UpdC.of0 hu03).tr hbp.out.2).tr (UpdC.of0 hu9h.out)
    have hstr : ∀ g' cur fz, w9.heap[g']? = some (.cells cur 9 fz) → ¬ g' = w.heap.size := fun g' cur fz hg' e => by
      rw [e, y9.out] at hg'
      injection hg' with hg'
      injection hg' with _ hg' _
      exact absurd hg' (by decide)
    refine ⟨Upd.trans hU hX (fun n hn e => by omega), ?_, ?_⟩
    · rw [hbm.out]
      exact ⟨_, _, hE9h.out.to hX (fun b hb => by rw [hb, y9.out]; rfl) hstr⟩
    · refine DR.to ⟨hs9h.out, fun g o e => ?_⟩ hX hstr
      obtain ⟨_, cur, hc⟩ := hn9h.out g o e
      exact ⟨cur, _, hc⟩)
  go_region
  rename_i hK
  refine hK _ _ ?_
  go_wp2_with (first
    | ((show Go.bodyPost _ _ _ Go.Exit.ret _ _); refine bodyPost_ret (res_rget rfl rfl rfl (blk_alloc (put4 y9.out _ _ _ _))) rfl ?_)
    | fail)
  first | exact ⟨ao', ⟨cap', rfl⟩, hfin.out _ (by repeat first | with_reducible (first | exact Upd.refl _ _ | assumption | apply Upd.drew | apply Upd.alloc) | refine Upd.setCell ?_ (fun h => by first | rfl | exact absurd h (Nat.lt_irrefl _) | (exfalso; simp only [] at h; omega)) _)⟩ | exact ⟨ao', cap', rfl, hfin.out _ (by repeat first | with_reducible (first | exact Upd.refl _ _ | assumption | apply Upd.drew | apply Upd.alloc) | refine Upd.setCell ?_ (fun h => by first | rfl | exact absurd h (Nat.lt_irrefl _) | (exfalso; simp only [] at h; omega)) _)⟩
theorem rget_w (t : Nat) (c : CS) (nm : Bs) (ty now : Int) (w : World) (hok : COk c) (hN : c.N ≤ 1000000) (hn : nm.length ≤ 70000) (hB : B ≤ w.heap.size) (h : RcT B w t c) :
    Calls Try.prog 37 #[.pointer (some ⟨t, 0, none⟩), .string ⟨nm.toArray⟩, .int .i64 ty, .int .i64 now] w (Rets fun r w' => match hitB c nm ty now with
      | none => r = .tuple #[.agg #[.string ⟨([] : Bs).toArray⟩, .int .i64 0, .int .i64 0, .slice none 0 0], .int .i64 0, .bool false] ∧ Upd0 w w'
      | some e => ∃ ao cap, r = .tuple #[St.val ⟨e.nm, e.ty, e.en - now, e.dt⟩ ao cap, .int .i64 e.rk, .bool true] ∧ UpdC B w w' ∧ RcT B w' t (bumpC c (fold nm) ty) ∧ DR w' ao e.dt) := by
  cases hh : hitB c nm ty now with
  | none => exact rget_no t c nm ty now w hok hn h hh
  | some e => exact rget_yes t c nm ty now e w hok hN hn hB h hh
theorem rput_w (t : Nat) (c : CS) (s : St) (ao : Option Addr) (cap : Nat) (rk now : Int) (w : World) (hok : COk c) (hN : c.N ≤ 1000000) (hf : fewS s = true) (hB : B ≤ w.heap.size) (h : RcT B w t c) (hS : StayC B w ao s.dt) :
    Calls Try.prog 35 #[.pointer (some ⟨t, 0, none⟩), s.val ao cap, .int .i64 rk, .int .i64 now] w (Rets fun r w' => r = .int .i64 (putI c s rk now) ∧ UpdC B w w' ∧ RcT B w' t (putS c s rk now)) := by
  cases hb : putB s rk now with
  | true => exact rput_go t c s ao cap rk now w hok hN hf hb hB h hS
  | false =>
    rw [show putI c s rk now = 1 by rw [putI, hb]; rfl, show putS c s rk now = c by rw [putS, hb]; rfl]
    exact (rput_bad t s ao cap rk now w hf hb hS.sr).use fun v w' ⟨e, hu⟩ => ⟨e, UpdC.of0 hu, h.to0 hu⟩
end Go.Proofs.Ytijmbpokglohbaa
