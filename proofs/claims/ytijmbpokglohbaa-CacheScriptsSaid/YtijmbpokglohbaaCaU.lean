/-
  The document's cache: Put, where something is written.
-/
import Derived.Test.YtijmbpokglohbaaCaT
import Derived.Deep.CutRange
import Derived.Deep.CutBlock
namespace Go.Proofs.Ytijmbpokglohbaa
open Go.RowKit Go.Maps
set_option linter.unusedSimpArgs false
set_option linter.unusedVariables false
variable {B : Nat}
def StayC (B : Nat) (w : World) (ao : Option Addr) (l : List Bs) : Prop := ∀ wx, UpdC B w wx → SR wx ao l
theorem StayC.sr {w : World} {ao : Option Addr} {l : List Bs} (h : StayC B w ao l) : SR w ao l := h w (Upd.refl _ _)
theorem StayC.of {w0 w : World} {ao : Option Addr} {l : List Bs} (h : SR w0 ao l) (k : Upd0 w0 w) : StayC w0.heap.size w ao l := fun wx hx => h.up (UpdC.fin k hx)
theorem keepC {w w' : World} {b : Nat} {c : Array Value} {f : Nat × Nat} (h : w.heap[b]? = some (.cells c 60 f)) (k : UpdC B w w') : w'.heap[b]? = some (.cells c 60 f) := k.block (fun hk => by rw [h] at hk; exact absurd hk.2 (by simp [kindS])) h
theorem COk.sub {c : CS} (h : COk c) {L : List CE} (hs : L.Sublist c.L) : COk { c with L := L } :=
  ⟨h.r1, h.r2, h.m1, h.m2, by have h1 := hs.length_le; have h2 := h.len; show (L.length : Int) ≤ c.room; omega, h.n0, fun e he => h.ent e (hs.subset he), h.keys.sub hs, h.uss.sub hs⟩
def liveE (now : Int) (m : RE) : Bool := decide (now < m.e.en)
theorem RcIs.app {w W w7 : World} {t : Nat} {v v' : Value} {c : CS} {M : List RE} {m : RE} (h : RcIs B w t v c M) (hW : Upd0 w W) (hu7 : Upd (fun k => v.ownBlock = some k) W w7) (row : w7.ownsRow 0 112 7 v' (M ++ [m]).length (res (M ++ [m]))) (hf : Fresh W v v') (hB : B ≤ w.heap.size) (dr : DR w m.ao m.e.dt) :
    RcIs B (w7.setCell ⟨t, 2, none⟩ v') t v' { c with L := c.L ++ [m.e] } (M ++ [m]) ∧ UpdC B w (w7.setCell ⟨t, 2, none⟩ v') := by
  have htl := blk_lt h.blk
  have hown : ∀ g, v.ownBlock = some g → ∃ cur, w.heap[g]? = some (.cells cur 112 (0, 0)) := fun g hg => kind_row7 h.row hg
  have hvt : ∀ g, v.ownBlock = some g → g ≠ t := fun g hg e => by
    obtain ⟨cur, hc⟩ := hown g hg
    rw [e, h.blk] at hc
    injection hc with hc
    injection hc with _ hc _
    exact absurd hc (by decide)
  have hb7 := hu7.block (fun e => hvt t e rfl) (hW.block (fun h => h) h.blk)
  have hset : Upd (fun n => n = t) w7 (w7.setCell ⟨t, 2, none⟩ v') := (Upd.refl (fun n => n = t) w7).setCell (p := ⟨t, 2, none⟩) (fun _ => rfl) _
  have hU : Upd (fun b => v.ownBlock = some b ∨ b = t) w (w7.setCell ⟨t, 2, none⟩ v') := Upd.trans (Upd.trans (hW.mono (fun _ _ h => h.elim)) hu7 (fun _ _ h => .inl h)) hset (fun _ _ h => .inr h)
  have hv't : ∀ g, v'.ownBlock = some g → g ≠ t := fun g hg e => by
    rcases hf g hg with k | k
    · exact hvt g k e
    · have := hW.size; omega
  have hstr : ∀ g cur fz, w.heap[g]? = some (.cells cur 9 fz) → ¬ (v.ownBlock = some g ∨ g = t) := by
    intro g cur fz hg hs
    rcases hs with e | e
    · obtain ⟨cur2, hc⟩ := hown g e
      rw [hg] at hc
      injection hc with hc
      injection hc with _ hc _
      exact absurd hc (by decide)
    · rw [e, h.blk] at hg
      injection hg with hg
      injection hg with _ hg _
      exact absurd hg (by decide)
  refine ⟨⟨by simpa using blk_set hb7 2 v', ownsRow_upd row hset (fun g hg e => hv't g hg e), by simp [h.abs], fun x hx => ?_, h.lo.1, fun b hb => ?_⟩, hU.mono fun n hn e => ?_⟩
  · rcases List.mem_append.1 hx with hx | hx
    · exact (h.dat x hx).to hU hstr
    · rw [List.mem_singleton.1 hx]; exact dr.to hU hstr
  · rcases hf b hb with k | k
    · exact h.lo.2 b k
    · have := hW.size; omega
  · rcases e with e | e
    · obtain ⟨cur, hc⟩ := hown n e; exact ⟨h.lo.2 n e, by rw [hc]; rfl⟩
    · subst e; exact ⟨h.lo.1, by rw [h.blk]; rfl⟩
theorem map_take_drop (M : List RE) (k : Nat) : (M.take k ++ M.drop (k + 1)).map (·.e) = (M.map (·.e)).take k ++ (M.map (·.e)).drop (k + 1) := by simp [List.map_take, List.map_drop]
theorem len_take_drop {M : List RE} {k : Nat} (h : k < M.length) : (M.take k ++ M.drop (k + 1)).length = M.length - 1 := by
  rw [List.length_append, List.length_take, List.length_drop]; omega
theorem mem_take_drop {M : List RE} {k : Nat} : ∀ m ∈ M.take k ++ M.drop (k + 1), m ∈ M := fun m h => by
  rcases List.mem_append.1 h with h | h
  · exact List.mem_of_mem_take h
  · exact List.mem_of_mem_drop h
theorem roomed_eq (room : Int) (L1 : List CE) (now : Int) : roomed room L1 now = if (((if (L1.length : Int) < room then L1 else overL L1 now) : List CE).length : Int) < room then (if (L1.length : Int) < room then L1 else overL L1 now) else dropO (if (L1.length : Int) < room then L1 else overL L1 now) := by
  unfold roomed clearL
  by_cases h : (L1.length : Int) < room
  · simp only [h, if_true]
  · simp only [h, if_false]
theorem filt_take {M : List RE} {j : Nat} {m : RE} {now : Int} (hm : M[j]? = some m) : (M.take (j + 1)).filter (liveE now) = (M.take j).filter (liveE now) ++ (if now < m.e.en then [m] else []) := by
  have e : M.take (j + 1) = M.take j ++ [m] := by rw [List.take_add_one, hm]; rfl
  rw [e, List.filter_append]
  congr 1
  by_cases h : now < m.e.en <;> simp [liveE, h]
theorem filt_map (M : List RE) (now : Int) : (M.filter (liveE now)).map (·.e) = overL (M.map (·.e)) now := by
  rw [overL_eq, List.filter_map]; rfl
theorem res_own_len {w : World} {B : Nat} {v : Value} {n : Nat} {M : List RE} (h : w.ownsRow B 112 7 v n (res M)) : M.length = n := by
  have := h.1
  rw [res, flat_len re_len] at this
  omega
set_option maxRecDepth 100000 in
set_option maxHeartbeats 8000000 in
theorem rput_go (t : Nat) (c : CS) (s : St) (ao : Option Addr) (cap : Nat) (rk now : Int) (w : World) (hok : COk c) (hN : c.N ≤ 1000000) (hf : fewS s = true) (hb : putB s rk now = true) (hB : B ≤ w.heap.size) (h : RcT B w t c) (hS : StayC B w ao s.dt) :
    Calls Try.prog 35 #[.pointer (some ⟨t, 0, none⟩), s.val ao cap, .int .i64 rk, .int .i64 now] w (Rets fun r w' => r = .int .i64 (putI c s rk now) ∧ UpdC B w w' ∧ RcT B w' t (putS c s rk now)) := by
  obtain ⟨v, M, h⟩ := h
  obtain ⟨ao0, cap0, rfl⟩ := ownsRow_slice h.row
  obtain ⟨i1, hj, hy0, hy1, hy2⟩ := info_parts info_re
  obtain ⟨b1, b2, b3⟩ := putB_num hb
  obtain ⟨f1, f2, f3⟩ := fewS_num hf
  have g1 : s.nm.length ≤ 70000 := by omega
  have g2 : ∀ d ∈ s.dt, d.length ≤ 70000 := fun d hd => by have := f3 d hd; omega
  have g3 : s.dt.length ≤ 20 := by omega
  have hw := Lib.hid (fun (w' : World) (g : Nat) (h : w'.heap[g]? = some (.cells (setC s ao cap) 60 (0, 0))) (k : SR w' ao s.dt) => rcheck1_w s g ao cap g1 g2 g3 w' h k)
  have hSh := Lib.hid hS
  have hck := Lib.hid (ckS_yes b1)
  have h3h := Lib.hid b3
  have hr12 : ¬ rk < 1 ∧ ¬ 5 < rk := by
    simp only [Bool.and_eq_true, decide_eq_true_eq] at b2
    omega
  obtain ⟨hr1, hr2⟩ := hr12
  have hpI : putI c s rk now = (if denyB c.L s rk now then 9 else 0) := by rw [putI, if_pos hb]
  have hpS : putS c s rk now = (if denyB c.L s rk now then c else putZ c s rk now) := by rw [putS, if_pos hb]
  have hmn := may_num b1
  have hpz := Lib.hid (show putZ c s rk now = if s.tl = 0 then { c with L := dropK c.L s.nm s.ty } else { c with N := c.N + 1, L := roomed c.room (dropK c.L s.nm s.ty) now ++ [newC s rk now c.most c.N] } from rfl)
  obtain ⟨pz, hpze⟩ : ∃ pz, putZ c s rk now = pz := ⟨_, rfl⟩
  rw [hpze] at hpz hpS
  rw [hpI, hpS]
  obtain ⟨dn, hdn⟩ : ∃ dn, denyB c.L s rk now = dn := ⟨_, rfl⟩
  have hdnh := Lib.hid (show (c.L.find? (isK s.nm s.ty)).any (fun e => decide (now < e.en) && decide (rk < e.rk)) = dn from hdn)
  rw [hdn]
  have hh := Lib.hid h
  have hokh := Lib.hid hok
  have htl := blk_lt h.blk
  have hl := h.len hok
  have hM200 := hl.1
  have hMLh := Lib.hid hl.2
  have hlen12 : s.dt.length ≤ 5000 := by omega
  obtain ⟨hfd, hd1, hd20, k1, k2, k3, k4⟩ := hmn
  clear hfd hd20 g3 hl
  clear b1 b2 b3 hpI hpS hb f1 f2 f3 g1 g2 hpze hdn h hok hS hf
  obtain ⟨room, most, N, L⟩ := c
  obtain ⟨nm, ty, tl, dt⟩ := s
  simp only [St.val] at *
  obtain ⟨L1, hL1⟩ : ∃ L1, dropK L nm ty = L1 := ⟨_, rfl⟩
  have hL1h := Lib.hid hL1
  rw [hL1] at hpz
  clear hL1
  go_enter Try.func35, Try.ntmps35
  go_upto_if 38 with (first
    | (go_at_call 61; refine (hw.out _ _ (alloc_last _ _ _ (by simp)) (hSh.out.sr.up (by repeat first | with_reducible (first | exact Upd.refl _ _ | assumption | apply Upd.drew | apply Upd.alloc) | refine Upd0.tr ?_ (by with_reducible assumption) | refine Upd.setCell ?_ (fun h => absurd h (by first | exact Nat.lt_irrefl _ | (simp only []; omega))) _))).use ?_; rintro v w1 ⟨rfl, hu1⟩; rw [hck.out]; have y1 := Lib.hid (show w1.heap[w.heap.size]? = some (.cells #[.string ⟨nm.toArray⟩, .int .i64 ty, .int .i64 tl, .slice ao dt.length cap] 60 (0, 0)) from hu1.block (fun h => h) (blk_alloc (alloc_last w _ w.heap.size rfl))))
    | (go_at_call 62; (with_reducible refine (rtimeC_w now _).use ?_); rintro v w2 ⟨rfl, hu2⟩; rw [h3h.out]; have hu02 : Upd0 w w2 := (by repeat first | with_reducible (first | exact Upd.refl _ _ | assumption | apply Upd.drew | apply Upd.alloc) | refine Upd0.tr ?_ (by with_reducible assumption) | refine Upd.setCell ?_ (fun h => absurd h (by first | exact Nat.lt_irrefl _ | (simp only []; omega))) _); have y2 := Lib.hid (hu2.block (fun h => h) y1.out); obtain ⟨x0, x1, x2, x3⟩ := set4 y2.out; have hbl := blk_lt y2.out)
    | (go_at_call 63; refine Calls.use (rfind_w t _ _ M nm ty _ (hh.out.to0 (show Upd0 w _ from (by repeat first | with_reducible (first | exact Upd.refl _ _ | assumption | apply Upd.drew | apply Upd.alloc) | refine Upd0.tr ?_ (by with_reducible assumption) | refine Upd.setCell ?_ (fun h => absurd h (by first | exact Nat.lt_irrefl _ | (simp only []; omega))) _))) hokh.out) ?_; rintro v w3 ⟨i, rfl, hu3, hi3⟩; have hi3h := Lib.hid hi3; have hu03 : Upd0 w w3 := hu02.tr hu3; have y3 := Lib.hid (hu3.block (fun h => h) y2.out); clear hi3)
    | (with_reducible refine wp_serial (by kernel_rfl) (by kernel_rfl) (by repeat with_reducible (first | apply NoBad.then | apply NoBad.inBlock | apply NoBad.jump | exact NoBad.rets)) ?_) | fail)
  have hU3 : UpdC B w w3 := UpdC.of0 hu03
  have hz3 := hu03.size
  clear x0 x1 x2 x3
  go_cut [9] from 37 (fun _ wx => UpdC B w wx ∧ Hid (RcT B wx t { room := room, most := most, N := N, L := L1 }) ∧ Hid (wx.heap[w.heap.size]? = some (.cells #[.string ⟨nm.toArray⟩, .int .i64 ty, .int .i64 tl, .slice ao dt.length cap] 60 (0, 0))) ∧ Hid (dn = false))
  case first =>
    have hE := Lib.hid (hh.out.to0 hu03)
    have hab := Lib.hid (show M.map (·.e) = L from hh.out.abs)
    rcases hi3h.out with ⟨rfl, hno⟩ | ⟨k, m, rfl, hmk, hn1, hn2⟩
    · have hx := find_nil hno
      have hdf := Lib.hid (show dn = false by rw [← hdnh.out]; simp only [hx.1]; rfl)
      have hLL := Lib.hid (show L1 = L by rw [← hL1h.out]; exact hx.2)
      clear hx hno
      go_wp2_with (first | (with_reducible refine wp_serial (by kernel_rfl) (by kernel_rfl) (by repeat with_reducible (first | apply NoBad.then | apply NoBad.inBlock | apply NoBad.jump | exact NoBad.rets)) ?_) | fail)
      all_goals go_meet
      exact ⟨hU3, Lib.hid ⟨_, M, by rw [hLL.out]; exact hE.out⟩, y3, hdf⟩
    · have hkl : k < M.length := (List.getElem?_eq_some_iff.1 hmk).1
      obtain ⟨g, rfl⟩ := ownsRow_some hE.out.row (by omega)
      obtain ⟨z0, z1, z2, z3⟩ := hE.out.at
      obtain ⟨e0, e1, e2, e3, e4, e5, e6⟩ := hE.out.el hmk
      have hzf := blk_frz hE.out.blk 2
      have hgl := ownsRow_lt hE.out.row (g := g) rfl
      have htl3 := blk_lt hE.out.blk
      have hLk := Lib.hid (show L[k]? = some m.e by rw [← hab.out, List.getElem?_map, hmk]; rfl)
      have hfa := Lib.hid (find_at hokh.out.keys hLk.out ⟨hn1, hn2⟩)
      have hLd := Lib.hid (show (M.take k ++ M.drop (k + 1)).map (·.e) = L1 by rw [map_take_drop, hab.out, ← hL1h.out, dropK_at hokh.out.keys hLk.out (isK_iff.2 ⟨hn1, hn2⟩)])
      clear hmk hn1 hn2
      by_cases hlt : now < m.e.en
      · by_cases hrk : rk < m.e.rk
        · have hdf := Lib.hid (show dn = true by rw [← hdnh.out]; simp only [hfa.out]; simp [hlt, hrk])
          have hdt := hdf.out
          subst hdt
          go_wp2_with (first | (with_reducible refine wp_serial (by kernel_rfl) (by kernel_rfl) (by repeat with_reducible (first | apply NoBad.then | apply NoBad.inBlock | apply NoBad.jump | exact NoBad.rets)) ?_) | fail)
          all_goals go_returns
          all_goals exact ⟨rfl, hU3, _, M, hE.out⟩
        · have hdf := Lib.hid (show dn = false by rw [← hdnh.out]; simp only [hfa.out]; simp [hlt, hrk])
          go_wp2_with (first
            | (go_at_call 64; refine Calls.use (rwithout_w g cap0 M k M.length rfl hkl hM200 _ hE.out.row) ?_; rintro v w5 ⟨ao', cap', rfl, hr5, hu5, hf5⟩; have hp := Lib.hid (hE.out.putL (M' := M.take k ++ M.drop (k + 1)) hu5 (by rw [len_take_drop hkl]; exact hr5) hf5 (Nat.le_trans hB hz3) hLd.out mem_take_drop); have hb5 := hu5.block (fun h => h) hE.out.blk; obtain ⟨q0, q1, q2, q3⟩ := set4 hb5; have qf := blk_frz hb5 2; have ql := blk_lt hb5; clear hr5 hf5 hb5)
            | (with_reducible refine wp_serial (by kernel_rfl) (by kernel_rfl) (by repeat with_reducible (first | apply NoBad.then | apply NoBad.inBlock | apply NoBad.jump | exact NoBad.rets)) ?_) | fail)
          all_goals go_meet
          exact ⟨(UpdC.of0 hu03).tr hp.out.2, Lib.hid ⟨_, _, hp.out.1⟩, Lib.hid (keepC y3.out hp.out.2), hdf⟩
      · have hdf := Lib.hid (show dn = false by rw [← hdnh.out]; simp only [hfa.out]; simp [hlt])
        go_wp2_with (first
          | (go_at_call 64; refine Calls.use (rwithout_w g cap0 M k M.length rfl hkl hM200 _ hE.out.row) ?_; rintro v w5 ⟨ao', cap', rfl, hr5, hu5, hf5⟩; have hp := Lib.hid (hE.out.putL (M' := M.take k ++ M.drop (k + 1)) hu5 (by rw [len_take_drop hkl]; exact hr5) hf5 (Nat.le_trans hB hz3) hLd.out mem_take_drop); have hb5 := hu5.block (fun h => h) hE.out.blk; obtain ⟨q0, q1, q2, q3⟩ := set4 hb5; have qf := blk_frz hb5 2; have ql := blk_lt hb5; clear hr5 hf5 hb5)
          | (with_reducible refine wp_serial (by kernel_rfl) (by kernel_rfl) (by repeat with_reducible (first | apply NoBad.then | apply NoBad.inBlock | apply NoBad.jump | exact NoBad.rets)) ?_) | fail)
        all_goals go_meet
        exact ⟨(UpdC.of0 hu03).tr hp.out.2, Lib.hid ⟨_, _, hp.out.1⟩, Lib.hid (keepC y3.out hp.out.2), hdf⟩
  case rest =>
    obtain ⟨hU1, hR1, y4, hdn⟩ := hcut
    obtain rfl := hdn.out
    clear hdn
    have hok1 := Lib.hid (show COk { room := room, most := most, N := N, L := L1 } from hokh.out.sub (by rw [← hL1h.out]; exact dropK_sub L nm ty))
    obtain ⟨x0, x1, x2, x3⟩ := set4 y4.out
    have hbl4 := blk_lt y4.out
    have hzc := hU1.size
    clear hi3h hdnh hh y3 hU3 hu03 hu3 hz3
    by_cases ht0 : tl = 0
    · subst ht0
      have hpe := Lib.hid (show pz = { room := room, most := most, N := N, L := L1 } by rw [hpz.out, if_pos rfl])
      go_wp2_with (first | (with_reducible refine wp_serial (by kernel_rfl) (by kernel_rfl) (by repeat with_reducible (first | apply NoBad.then | apply NoBad.inBlock | apply NoBad.jump | exact NoBad.rets)) ?_) | fail)
      all_goals go_returns
      all_goals exact ⟨rfl, hU1, by rw [hpe.out]; exact hR1.out⟩
    · have ht0b : (tl == 0) = false := beq_eq_false_iff_ne.2 ht0
      have hpe := Lib.hid (show pz = { room := room, most := most, N := N + 1, L := roomed room L1 now ++ [newC ⟨nm, ty, tl, dt⟩ rk now most N] } by rw [hpz.out, if_neg ht0])
      clear hpz
      obtain ⟨v1, M1, h1⟩ := hR1.out
      obtain ⟨ao1, cap1, rfl⟩ := ownsRow_slice h1.row
      have hl1 := h1.len hok1.out
      have hr200 := hl1.1
      have hM1L := Lib.hid hl1.2
      simp only [] at hM1L
      have h1h := Lib.hid h1
      have ht1 := blk_lt h1.blk
      obtain ⟨z0, z1, z2, z3⟩ := h1.at
      clear h1 hl1
      go_upto_if 82 with (first | (with_reducible refine wp_serial (by kernel_rfl) (by kernel_rfl) (by repeat with_reducible (first | apply NoBad.then | apply NoBad.inBlock | apply NoBad.jump | exact NoBad.rets)) ?_) | fail)
      go_cut [10, 11] from 73 (fun _ _ wx => UpdC B wc wx ∧ Hid (RcT B wx t { room := room, most := most, N := N, L := (if (L1.length : Int) < room then L1 else overL L1 now) }) ∧ Hid (wx.heap[w.heap.size]? = some (.cells #[.string ⟨nm.toArray⟩, .int .i64 ty, .int .i64 tl, .slice ao dt.length cap] 60 (0, 0))))
      case first =>
        by_cases hroom : (M1.length : Int) < room
        · have hr0 : ¬ room ≤ M1.length := by omega
          have hif := Lib.hid (show ((if (L1.length : Int) < room then L1 else overL L1 now) : List CE) = L1 by rw [if_pos (by rw [← hM1L.out]; exact hroom)])
          go_wp2_with (first | (with_reducible refine wp_serial (by kernel_rfl) (by kernel_rfl) (by repeat with_reducible (first | apply NoBad.then | apply NoBad.inBlock | apply NoBad.jump | exact NoBad.rets)) ?_) | fail)
          all_goals go_meet
          exact ⟨UpdC.of0 (by repeat first | with_reducible (first | exact Upd.refl _ _ | assumption | apply Upd.drew | apply Upd.alloc) | refine Upd0.tr ?_ (by with_reducible assumption) | refine Upd.setCell ?_ (fun h => absurd h (by first | exact Nat.lt_irrefl _ | (simp only []; omega))) _), Lib.hid ⟨_, M1, by rw [hif.out]; exact h1h.out.to0 (by repeat first | with_reducible (first | exact Upd.refl _ _ | assumption | apply Upd.drew | apply Upd.alloc) | refine Upd0.tr ?_ (by with_reducible assumption) | refine Upd.setCell ?_ (fun h => absurd h (by first | exact Nat.lt_irrefl _ | (simp only []; omega))) _)⟩, y4⟩
        · have hr0 : room ≤ M1.length := by omega
          have hif := Lib.hid (show ((if (L1.length : Int) < room then L1 else overL L1 now) : List CE) = overL L1 now by rw [if_neg (by rw [← hM1L.out]; exact hroom)])
          go_wp2_with (first | (with_reducible refine wp_serial (by kernel_rfl) (by kernel_rfl) (by repeat with_reducible (first | apply NoBad.then | apply NoBad.inBlock | apply NoBad.jump | exact NoBad.rets)) ?_) | fail)
          clear z0 z1 z2 z3
          go_loopw [11, 10] (fun kv ov wr => ∃ (j n' : Nat) (ao' : Option Addr) (cap' : Nat), j ≤ M1.length ∧ n' ≤ j ∧ kv = .int .i64 j ∧ ov = .slice ao' n' cap' ∧ Upd0 wc wr ∧ Hid (wr.ownsRow wc.heap.size 112 7 (.slice ao' n' cap') n' (res ((M1.take j).filter (liveE now))))) (fun kv _ _ => M1.length - (intOf kv).toNat)
          case atStart => exact ⟨0, 0, none, 0, Nat.zero_le _, Nat.le_refl _, rfl, rfl, (by repeat first | with_reducible (first | exact Upd.refl _ _ | assumption | apply Upd.drew | apply Upd.alloc) | refine Upd0.tr ?_ (by with_reducible assumption) | refine Upd.setCell ?_ (fun h => absurd h (by first | exact Nat.lt_irrefl _ | (simp only []; omega))) _), Lib.hid (World.ownsRow_nil _ _ _ _)⟩
          case round =>
            obtain ⟨j, n', ao', cap', hj', hnj, rfl, rfl, hu, ho⟩ := hrel
            have hR := Lib.hid (h1h.out.to0 hu)
            obtain ⟨z0, z1, z2, z3⟩ := hR.out.at
            have hzf := blk_frz hR.out.blk 2
            have htr := blk_lt hR.out.blk
            have hzr := hu.size
            by_cases hlt : j < M1.length
            · obtain ⟨g, rfl⟩ := ownsRow_some hR.out.row (by omega)
              obtain ⟨m, hm⟩ : ∃ m, M1[j]? = some m := ⟨M1[j], List.getElem?_eq_getElem hlt⟩
              obtain ⟨e0, e1, e2, e3, e4, e5, e6⟩ := hR.out.el hm
              have hgl := ownsRow_lt hR.out.row (g := g) rfl
              have hst := Lib.hid (filt_take (now := now) hm)
              clear hm
              by_cases hen : now < m.e.en
              · have hf2 := Lib.hid (show (M1.take (j + 1)).filter (liveE now) = (M1.take j).filter (liveE now) ++ [m] by rw [hst.out, if_pos hen])
                have ho0 := Lib.hid (ownsRow_mono ho.out (fun _ _ => Nat.zero_le _) : wr.ownsRow 0 _ _ _ _ _)
                clear hst
                go_wp2_with (first
                  | (at_builtin; (refine wpList_app (w := wr) (by repeat first | exact Ext.refl _ | assumption | apply Ext.drew | apply Ext.alloc) rfl (.tmp 102) (.tmp 110) 56 rfl 112 i1 _ 7 80 Try.underlying56 hj hy0 hy1 hy2 rfl (by decide) (.slice ao' n' cap') n' (res ((M1.take j).filter (liveE now))) ho0.out rfl wr.heap.size 1 1 [.string ⟨m.e.nm.toArray⟩, .int .i64 m.e.ty, .int .i64 m.e.tl, .slice m.ao m.e.dt.length m.cap, .int .i64 m.e.rk, .int .i64 m.e.en, .int .i64 m.e.us] rfl rfl (alloc_last _ _ _ (by simp)) (by rfl) (by omega) (by omega) ?_; intro ao7 cap7 w7 hr7 hu7 hf7; have hr7h := Lib.hid hr7; have hu7h := Lib.hid hu7; have hf7h := Lib.hid hf7; clear hr7 hu7 hf7))
                  | (with_reducible refine wp_serial (by kernel_rfl) (by kernel_rfl) (by repeat with_reducible (first | apply NoBad.then | apply NoBad.inBlock | apply NoBad.jump | exact NoBad.rets)) ?_) | fail)
                have hU : Upd0 wc w7 := Upd.trans (show Upd0 wc (wr.alloc _) from (by repeat first | with_reducible (first | exact Upd.refl _ _ | assumption | apply Upd.drew | apply Upd.alloc) | refine Upd0.tr ?_ (by with_reducible assumption) | refine Upd.setCell ?_ (fun h => absurd h (by first | exact Nat.lt_irrefl _ | (simp only []; omega))) _)) hu7h.out (fun q hq hs => absurd hq (by have := (ho.out.lt q hs).1; omega))
                go_roundw
                case rel => exact ⟨j + 1, n' + 1, ao7, cap7, by omega, by omega, by go_num, rfl, hU, Lib.hid (by
                    rw [hf2.out, res_app]
                    have h3 := ownsRow_mono (B' := wc.heap.size) hr7h.out (fun q hq => by
                      rcases hf7h.out q hq with h | h
                      · exact (ho.out.lt q h).1
                      · simp only [World.size_alloc] at h; omega)
                    simpa [res, RE.cells] using h3)⟩
                case measure => simp [intOf]; omega
              · have hf2 := Lib.hid (show (M1.take (j + 1)).filter (liveE now) = (M1.take j).filter (liveE now) by rw [hst.out, if_neg hen, List.append_nil])
                have hen' : m.e.en ≤ now := by omega
                clear hst
                go_wp2_with (first | (with_reducible refine wp_serial (by kernel_rfl) (by kernel_rfl) (by repeat with_reducible (first | apply NoBad.then | apply NoBad.inBlock | apply NoBad.jump | exact NoBad.rets)) ?_) | fail)
                go_roundw
                case rel => exact ⟨j + 1, n', ao', cap', by omega, by omega, by go_num, rfl, (by repeat first | with_reducible (first | exact Upd.refl _ _ | assumption | apply Upd.drew | apply Upd.alloc) | refine Upd0.tr ?_ (by with_reducible assumption) | refine Upd.setCell ?_ (fun h => absurd h (by first | exact Nat.lt_irrefl _ | (simp only []; omega))) _), Lib.hid (by rw [hf2.out]; exact ho.out)⟩
                case measure => simp [intOf]; omega
            · obtain rfl : j = M1.length := by omega
              have ho1 := ho.out
              rw [List.take_length] at ho1
              have hnl := Lib.hid (res_own_len ho1)
              have hp := Lib.hid (h1h.out.putL (M' := M1.filter (liveE now)) (L' := overL L1 now) hu (by rw [hnl.out]; exact ownsRow_mono ho1 (fun _ _ => Nat.zero_le _)) (fun b hb => (ho1.lt b hb).1) (by omega) (by rw [filt_map, h1h.out.abs]) (fun m hm => (List.mem_filter.1 hm).1))
              clear ho1
              go_wp2_with (first | (with_reducible refine wp_serial (by kernel_rfl) (by kernel_rfl) (by repeat with_reducible (first | apply NoBad.then | apply NoBad.inBlock | apply NoBad.jump | exact NoBad.rets)) ?_) | fail)
              all_goals go_meet
              exact ⟨hp.out.2, Lib.hid ⟨_, _, by rw [hif.out]; exact hp.out.1⟩, Lib.hid (keepC y4.out hp.out.2)⟩
      case rest =>
        obtain ⟨hU2, hR2, y5⟩ := hcut
        obtain ⟨L2, hL2⟩ : ∃ L2, ((if (L1.length : Int) < room then L1 else overL L1 now) : List CE) = L2 := ⟨_, rfl⟩
        have hrm := roomed_eq room L1 now
        rw [hL2] at hR2 hrm
        have hrmh := Lib.hid hrm
        have hok2 := Lib.hid (show COk { room := room, most := most, N := N, L := L2 } from hok1.out.sub (by
          show L2.Sublist L1
          rw [← hL2]
          split
          · exact List.Sublist.refl _
          · exact overL_sub L1 now))
        have hU2' : UpdC B w wc := hU1.tr hU2
        have hz2 := hU2'.size
        clear hL2 hrm hU2 hR1 h1h z0 z1 z2 z3 x0 x1 x2 x3 y4 hU1 ht1 hbl4 hzc hr200
        obtain ⟨v2, M2, h2⟩ := hR2.out
        obtain ⟨ao2, cap2, rfl⟩ := ownsRow_slice h2.row
        have hl2 := h2.len hok2.out
        have hr200 := hl2.1
        have hM2L := Lib.hid hl2.2
        simp only [] at hM2L
        have h2h := Lib.hid h2
        have ht2 := blk_lt h2.blk
        obtain ⟨z0, z1, z2, z3⟩ := h2.at
        have hroom1 := hok2.out.r1
        simp only [] at hroom1
        clear h2 hl2 hR2
        go_upto_if 125 with (first | (with_reducible refine wp_serial (by kernel_rfl) (by kernel_rfl) (by repeat with_reducible (first | apply NoBad.then | apply NoBad.inBlock | apply NoBad.jump | exact NoBad.rets)) ?_) | fail)
        go_cut [12, 13] from 116 (fun _ _ wx => UpdC B wc wx ∧ Hid (RcT B wx t { room := room, most := most, N := N, L := roomed room L1 now }) ∧ Hid (wx.heap[w.heap.size]? = some (.cells #[.string ⟨nm.toArray⟩, .int .i64 ty, .int .i64 tl, .slice ao dt.length cap] 60 (0, 0))))
        case first =>
          by_cases hroom : (M2.length : Int) < room
          · have hr0 : ¬ room ≤ M2.length := by omega
            have hr0b : decide (room ≤ (M2.length : Int)) = false := decide_eq_false hr0
            have hif := Lib.hid (show roomed room L1 now = L2 by rw [hrmh.out, if_pos (by rw [← hM2L.out]; exact hroom)])
            go_wp2_with (first | (with_reducible refine wp_serial (by kernel_rfl) (by kernel_rfl) (by repeat with_reducible (first | apply NoBad.then | apply NoBad.inBlock | apply NoBad.jump | exact NoBad.rets)) ?_) | fail)
            all_goals go_meet
            exact ⟨UpdC.of0 (by repeat first | with_reducible (first | exact Upd.refl _ _ | assumption | apply Upd.drew | apply Upd.alloc) | refine Upd0.tr ?_ (by with_reducible assumption) | refine Upd.setCell ?_ (fun h => absurd h (by first | exact Nat.lt_irrefl _ | (simp only []; omega))) _), Lib.hid ⟨_, M2, by rw [hif.out]; exact h2h.out.to0 (by repeat first | with_reducible (first | exact Upd.refl _ _ | assumption | apply Upd.drew | apply Upd.alloc) | refine Upd0.tr ?_ (by with_reducible assumption) | refine Upd.setCell ?_ (fun h => absurd h (by first | exact Nat.lt_irrefl _ | (simp only []; omega))) _)⟩, y5⟩
          · have hr0 : room ≤ M2.length := by omega
            have hr0b : decide (room ≤ (M2.length : Int)) = true := decide_eq_true hr0
            have hif := Lib.hid (show roomed room L1 now = dropO L2 by rw [hrmh.out, if_neg (by rw [← hM2L.out]; exact hroom)])
            go_wp2_with (first | (with_reducible refine wp_serial (by kernel_rfl) (by kernel_rfl) (by repeat with_reducible (first | apply NoBad.then | apply NoBad.inBlock | apply NoBad.jump | exact NoBad.rets)) ?_) | fail)
            clear z0 z1 z2 z3
            go_loopw [13, 12] (fun kv ov wr => ∃ j o : Nat, o < j ∧ j ≤ M2.length ∧ kv = .int .i64 j ∧ ov = .int .i64 o ∧ Upd0 wc wr ∧ Hid (∀ (i : Nat) (x y : RE), i < j → M2[i]? = some x → M2[o]? = some y → y.e.us ≤ x.e.us)) (fun kv _ _ => M2.length - (intOf kv).toNat)
            case atStart => exact ⟨1, 0, by omega, by omega, rfl, rfl, (by repeat first | with_reducible (first | exact Upd.refl _ _ | assumption | apply Upd.drew | apply Upd.alloc) | refine Upd0.tr ?_ (by with_reducible assumption) | refine Upd.setCell ?_ (fun h => absurd h (by first | exact Nat.lt_irrefl _ | (simp only []; omega))) _), Lib.hid (fun i x y hi hx hy => by
                obtain rfl : i = 0 := by omega
                rw [hx] at hy; cases hy; exact Int.le_refl _)⟩
            case round =>
              obtain ⟨j, o, hoj, hj', rfl, rfl, hu, hle⟩ := hrel
              have hR := Lib.hid (h2h.out.to0 hu)
              obtain ⟨z0, z1, z2, z3⟩ := hR.out.at
              have hzf := blk_frz hR.out.blk 2
              have htr := blk_lt hR.out.blk
              have hzr := hu.size
              obtain ⟨g, rfl⟩ := ownsRow_some hR.out.row (by omega)
              have hgl := ownsRow_lt hR.out.row (g := g) rfl
              obtain ⟨m, hm⟩ : ∃ m, M2[o]? = some m := ⟨M2[o]'(by omega), List.getElem?_eq_getElem _⟩
              have hmh := Lib.hid hm
              obtain ⟨e0, e1, e2, e3, e4, e5, e6⟩ := hR.out.el hm
              clear hm
              by_cases hlt : j < M2.length
              · obtain ⟨n, hn⟩ : ∃ n, M2[j]? = some n := ⟨M2[j], List.getElem?_eq_getElem hlt⟩
                have hnh := Lib.hid hn
                obtain ⟨p0, p1, p2, p3, p4, p5, p6⟩ := hR.out.el hn
                clear hn e0 e1 e2 e3 e4 e5 p0 p1 p2 p3 p4 p5
                by_cases hus : n.e.us < m.e.us
                · go_wp2_with (first | (with_reducible refine wp_serial (by kernel_rfl) (by kernel_rfl) (by repeat with_reducible (first | apply NoBad.then | apply NoBad.inBlock | apply NoBad.jump | exact NoBad.rets)) ?_) | fail)
                  go_roundw
                  case rel => exact ⟨j + 1, j, by omega, by omega, by go_num, rfl, (by repeat first | with_reducible (first | exact Upd.refl _ _ | assumption | apply Upd.drew | apply Upd.alloc) | refine Upd0.tr ?_ (by with_reducible assumption) | refine Upd.setCell ?_ (fun h => absurd h (by first | exact Nat.lt_irrefl _ | (simp only []; omega))) _), Lib.hid (fun i x y hi hx hy => by
                      rw [hnh.out] at hy; cases hy
                      by_cases hij : i = j
                      · subst hij; rw [hnh.out] at hx; cases hx; exact Int.le_refl _
                      · have := hle.out i x m (by omega) hx hmh.out
                        omega)⟩
                  case measure => simp [intOf]; omega
                · have hus' : m.e.us ≤ n.e.us := by omega
                  go_wp2_with (first | (with_reducible refine wp_serial (by kernel_rfl) (by kernel_rfl) (by repeat with_reducible (first | apply NoBad.then | apply NoBad.inBlock | apply NoBad.jump | exact NoBad.rets)) ?_) | fail)
                  go_roundw
                  case rel => exact ⟨j + 1, o, by omega, by omega, by go_num, rfl, (by repeat first | with_reducible (first | exact Upd.refl _ _ | assumption | apply Upd.drew | apply Upd.alloc) | refine Upd0.tr ?_ (by with_reducible assumption) | refine Upd.setCell ?_ (fun h => absurd h (by first | exact Nat.lt_irrefl _ | (simp only []; omega))) _), Lib.hid (fun i x y hi hx hy => by
                      rw [hmh.out] at hy; cases hy
                      by_cases hij : i = j
                      · subst hij; rw [hnh.out] at hx; cases hx; exact hus'
                      · exact hle.out i x m (by omega) hx hmh.out)⟩
                  case measure => simp [intOf]; omega
              · obtain rfl : j = M2.length := by omega
                have hab := Lib.hid (show M2.map (·.e) = L2 from hR.out.abs)
                have hLo := Lib.hid (show L2[o]? = some m.e by rw [← hab.out, List.getElem?_map, hmh.out]; rfl)
                have hLd := Lib.hid (show (M2.take o ++ M2.drop (o + 1)).map (·.e) = dropO L2 by
                  rw [map_take_drop, hab.out, dropO_at hok2.out.uss hLo.out fun f hf => ?_]
                  rw [← hab.out] at hf
                  obtain ⟨x, hx, rfl⟩ := List.mem_map.1 hf
                  obtain ⟨i, hi⟩ := List.mem_iff_getElem?.1 hx
                  exact hle.out i x m (List.getElem?_eq_some_iff.1 hi).1 hi hmh.out)
                clear e0 e1 e2 e3 e4 e5 e6
                go_wp2_with (first
                  | (go_at_call 64; refine Calls.use (rwithout_w g cap2 M2 o M2.length rfl hoj hr200 _ hR.out.row) ?_; rintro v w5 ⟨ao', cap', rfl, hr5, hu5, hf5⟩; have hp := Lib.hid (hR.out.putL (M' := M2.take o ++ M2.drop (o + 1)) hu5 (by rw [len_take_drop hoj]; exact hr5) hf5 (by omega) hLd.out mem_take_drop); have hb5 := hu5.block (fun h => h) hR.out.blk; obtain ⟨q0, q1, q2, q3⟩ := set4 hb5; have qf := blk_frz hb5 2; have ql := blk_lt hb5; clear hr5 hf5 hb5)
                  | (with_reducible refine wp_serial (by kernel_rfl) (by kernel_rfl) (by repeat with_reducible (first | apply NoBad.then | apply NoBad.inBlock | apply NoBad.jump | exact NoBad.rets)) ?_) | fail)
                all_goals go_meet
                exact ⟨(UpdC.of0 hu).tr hp.out.2, Lib.hid ⟨_, _, by rw [hif.out]; exact hp.out.1⟩, Lib.hid (keepC y5.out ((UpdC.of0 hu).tr hp.out.2))⟩
        case rest =>
          obtain ⟨hU3, hR3, y6⟩ := hcut
          obtain ⟨L3, hL3⟩ : ∃ L3, roomed room L1 now = L3 := ⟨_, rfl⟩
          rw [hL3] at hR3 hpe
          have hok3 := Lib.hid (show COk { room := room, most := most, N := N, L := L3 } from hok1.out.sub (by rw [← hL3]; exact roomed_sub room L1 now))
          have hU3' : UpdC B w wc := hU2'.tr hU3
          have hz6 := hU3'.size
          clear hL3 hU3 hU2' hrmh h2h z0 z1 z2 z3 ht2 hr200 hz2 y5
          obtain ⟨v3, M3, h3⟩ := hR3.out
          obtain ⟨ao3, cap3, rfl⟩ := ownsRow_slice h3.row
          have hr200 := (h3.len hok3.out).1
          have hq := h3.putN (N + 1)
          have hq1h := Lib.hid hq.1
          have hUx := Lib.hid (hU3'.tr hq.2)
          obtain ⟨z0, z1, z2, z3⟩ := h3.at
          have zf3 := blk_frz h3.blk 3
          have ht3 := blk_lt h3.blk
          obtain ⟨x0, x1, x2, x3⟩ := set4 y6.out
          have hbl6 := blk_lt y6.out
          have nbt : ¬ w.heap.size = t := by omega
          have nbt' : ¬ t = w.heap.size := by omega
          have hm1 := hok3.out.m1
          have hm2 := hok3.out.m2
          have hn0 := hok3.out.n0
          simp only [] at hm1 hm2 hn0
          have hnow : 0 ≤ now ∧ now ≤ 1099511627776 := by
            have := h3h.out
            simpa using this
          obtain ⟨hnow1, hnow2⟩ := hnow
          have hwr : wrap64 (now + min tl most) = now + min tl most := by unfold wrap64; omega
          have hwn : wrap64 (N + 1) = N + 1 := by unfold wrap64; omega
          have hCp := Lib.hid (fun (w' : World) (k : SR w' ao dt) => (show Calls Try.prog 65 #[.agg #[.string ⟨nm.toArray⟩, .int .i64 ty, .int .i64 tl, .slice ao dt.length cap]] w' (Rets fun r w'' => ∃ ao' cap', r = .agg #[.string ⟨nm.toArray⟩, .int .i64 ty, .int .i64 tl, .slice ao' dt.length cap'] ∧ SR w'' ao' dt ∧ Upd0 w' w'' ∧ (∀ g o, ao' = some ⟨g, o, none⟩ → w'.heap.size ≤ g ∧ ∃ cur, w''.heap[g]? = some (.cells cur 9 (0, 0)))) from copy1_w ⟨nm, ty, tl, dt⟩ ao cap hlen12 hd1 w' k))
          clear hq h3 hR3
          go_wp2_with (first
            | (go_at_call 65; refine Calls.use (hCp.out _ (hSh.out _ (Upd.drew hUx.out))) ?_; rintro v w9 ⟨ao', cap', rfl, hs9, hu9, hn9⟩; have hu9x : Upd0 (wc.setCell ⟨t, 3, none⟩ (.int .i64 (N + 1))) w9 := ⟨hu9.os, hu9.tape, hu9.output, hu9.size, hu9.keep⟩; have hq9 := Lib.hid (hq1h.out.to0 hu9x); have hE9 := hu9.ext; have hs9h := Lib.hid hs9; have hn9h := Lib.hid hn9; have hu9h := Lib.hid hu9x; have hz9 : wc.heap.size ≤ w9.heap.size := (by have := hu9.size; simpa using this); obtain ⟨q0, q1, q2, q3⟩ := hq9.out.at; have qf := blk_frz hq9.out.blk 2; have ql := blk_lt hq9.out.blk; clear hs9 hn9 hu9 hu9x)
            | ((with_reducible refine SM.wp_serial3_4 195 [3] [0, 1, 2, 3, 4, 5, 7, 8, 9] 10 [11, 12, 13] 14 [17, 18, 19, 20] 15 [16] 6 [21, 22, 23, 24, 25, 26] [_, _, _, _, _, _, _, _, _] _ [_, _, _] _ [_, _, _, _] _ [_] _ [_, _, _, _, _, _] (by kernel_rfl) (by decide +kernel) rfl rfl rfl rfl rfl rfl rfl rfl rfl (by refine ⟨by first | decide | simp, fun s hs => ?_⟩; simp only [List.mem_cons, List.not_mem_nil, or_false] at hs; rcases hs with rfl <;> first | rfl | simp [go_sem, SM.isI, Act.eval]) (by repeat with_reducible (first | apply NoBad.then | apply NoBad.inBlock | apply NoBad.jump | exact NoBad.rets)) ?_); simp only [List.getElem_toArray, List.getElem_cons_succ, List.getElem_cons_zero])
            | (with_reducible refine And.intro (And.intro (Ext.refl _) rfl) ?_)
            | (with_reducible refine And.intro (And.intro hE9 rfl) ?_)
            | (at_builtin; (refine wpList_app (w := w9) (by repeat first | exact Ext.refl _ | assumption | apply Ext.drew | apply Ext.alloc) rfl (.tmp 173) (.tmp 191) 56 rfl 112 i1 _ 7 80 Try.underlying56 hj hy0 hy1 hy2 rfl (by decide) (.slice ao3 M3.length cap3) M3.length (res M3) hq9.out.row rfl w9.heap.size 1 1 [.string ⟨nm.toArray⟩, .int .i64 ty, .int .i64 tl, .slice ao' dt.length cap', .int .i64 rk, .int .i64 (now + min tl most), .int .i64 (N + 1)] rfl rfl (alloc_last _ _ _ (by simp)) (by rfl) (by omega) (by omega) ?_; intro ao7 cap7 w7 hr7 hu7 hf7; have hA := Lib.hid (hq9.out.app (m := ⟨⟨nm, ty, tl, dt, rk, now + min tl most, N + 1⟩, ao', cap'⟩) (show Upd0 w9 (w9.alloc _) from (by repeat first | with_reducible (first | exact Upd.refl _ _ | assumption | apply Upd.drew | apply Upd.alloc) | refine Upd0.tr ?_ (by with_reducible assumption) | refine Upd.setCell ?_ (fun h => absurd h (by first | exact Nat.lt_irrefl _ | (simp only []; omega))) _)) hu7 (by simpa [res, RE.cells] using hr7) hf7 (by omega) ⟨hs9h.out, fun g o e => by obtain ⟨_, cur, hc⟩ := hn9h.out g o e; exact ⟨cur, _, hc⟩⟩); have hb7 := Lib.hid (hu7.block (fun e => by obtain ⟨cur, hc⟩ := kind_row7 hq9.out.row e; rw [hq9.out.blk] at hc; injection hc with hc; injection hc with _ hc _; exact absurd hc (by decide)) (blk_alloc hq9.out.blk)); have s7 := set4 hb7.out; obtain ⟨s70, s71, s72, s73⟩ := s7; have sf7 := blk_frz hb7.out 2; have sl7 := blk_lt hb7.out; clear hr7 hu7 hf7))
            | (with_reducible refine wp_serial (by kernel_rfl) (by kernel_rfl) (by repeat with_reducible (first | apply NoBad.then | apply NoBad.inBlock | apply NoBad.jump | exact NoBad.rets)) ?_) | fail)
          all_goals go_returns
          all_goals exact ⟨rfl, (hUx.out.tr (UpdC.of0 hu9h.out)).tr hA.out.2, by rw [hpe.out]; exact ⟨_, _, hA.out.1⟩⟩
end Go.Proofs.Ytijmbpokglohbaa
