/-
  The program's cache makes room: clear.
-/
import Derived.Test.YtijmbpokglohbaaCaE
import Derived.Test.YtijmbpokglohbaaCaF
namespace Go.Proofs.Ytijmbpokglohbaa
open Go.RowKit Go.Maps
set_option linter.unusedSimpArgs false
set_option linter.unusedVariables false
variable {B : Nat}
theorem CaIs.neq {w : World} {t bm : Nat} {room most N : Int} {L : List CE} {M : List EM} (h : CaIs B w t bm room most N L M) (k : KNe L) : NeQ (M.map EM.ke) := by
  unfold NeQ
  rw [List.pairwise_map]
  have := h.abs
  subst this
  unfold KNe at k
  rw [List.pairwise_map] at k
  exact k
theorem CaIs.tm {w : World} {t bm : Nat} {room most N : Int} {L : List CE} {M : List EM} (h : CaIs B w t bm room most N L M) : ¬ t = bm := fun e => by
  obtain ⟨es, c, hc⟩ := h.own.blk
  have := h.blk
  rw [e, hc] at this; cases this
theorem CaIs.em {w : World} {t bm : Nat} {room most N : Int} {L : List CE} {M : List EM} (h : CaIs B w t bm room most N L M) {m : EM} (hm : m ∈ M) : ¬ m.g = bm ∧ ¬ m.g = t := by
  refine ⟨fun e => ?_, fun e => ?_⟩
  · obtain ⟨es, c, hc⟩ := h.own.blk
    have := (h.ent m hm).blk
    rw [e, hc] at this; cases this
  · have := (h.ent m hm).blk
    rw [e, h.blk] at this
    injection this with this
    injection this with _ this _
    exact absurd this (by decide)
theorem two2 {w : World} {b : Nat} {a0 a1 : Value} {t : TypeId} (h : w.heap[b]? = some (.cells #[a0, a1] t (0, 0))) : w.cell? ⟨b, 0, none⟩ = some a0 ∧ w.cell? ⟨b, 1, none⟩ = some a1 ∧ w.frozen? ⟨b, 0, none⟩ = false ∧ w.frozen? ⟨b, 1, none⟩ = false :=
  ⟨by rw [blk_cell h]; rfl, by rw [blk_cell h]; rfl, blk_frz h 0, blk_frz h 1⟩
theorem two_put {w : World} {b : Nat} {a0 a1 : Value} {t : TypeId} (h : w.heap[b]? = some (.cells #[a0, a1] t (0, 0))) (x y : Value) : ((w.setCell ⟨b, 0, none⟩ x).setCell ⟨b, 1, none⟩ y).heap[b]? = some (.cells #[x, y] t (0, 0)) := by simpa using blk_set (blk_set h 0 x) 1 y
/-- the map is written alone -/
theorem CaIs.map {w w' : World} {t bm : Nat} {room most N : Int} {L L' : List CE} {M M' : List EM} (h : CaIs B w t bm room most N L M) (k : Upd (fun b => b = bm) w w') (ho : OwnsQ w' bm (M'.map EM.ke)) (hs : M'.Sublist M) (ha : M'.map (·.e) = L') : CaIs B w' t bm room most N L' M' ∧ UpdQ B w w' := by
  have hbm : ∀ o, w.heap[bm]? = some o → ∃ es c, o = .map es c := fun o ho => by
    obtain ⟨es, c, hc⟩ := h.own.blk
    rw [hc] at ho; cases ho; exact ⟨_, _, rfl⟩
  refine ⟨⟨k.block h.tm h.blk, ho, ha, fun m hm => (h.ent m (hs.subset hm)).to k (h.em (hs.subset hm)).1 (fun g cur fz hc e => ?_), h.dg.sublist hs, h.lo.1, h.lo.2.1, fun m hm => h.lo.2.2 m (hs.subset hm)⟩, k.mono fun n hn e => ?_⟩
  · rw [e] at hc
    obtain ⟨_, _, hx⟩ := hbm _ hc
    cases hx
  · subst e
    obtain ⟨es, c, hc⟩ := h.own.blk
    exact ⟨h.lo.2.1, by rw [hc]; rfl⟩
theorem map_filter_e {M : List EM} {L : List CE} (h : M.map (·.e) = L) (p : CE → Bool) : (M.filter fun m => p m.e).map (·.e) = L.filter p := by
  rw [← h, List.filter_map]; rfl
/-- what the loop knows: of the entries that have come the one that was used longest ago -/
def OldQ (M : List EM) (N : Int) (left : Lit → Bool) (u : Int) (on : Bs) (ot : Int) : Prop :=
  (∀ m ∈ M, left (kl m.e.nm m.e.ty) = false → u ≤ m.e.us) ∧ ((u = N + 1 ∧ on = [] ∧ ot = 0) ∨ ∃ m ∈ M, m.e.us = u ∧ m.e.nm = on ∧ m.e.ty = ot)
theorem oldQ_start {M : List EM} {N : Int} {left : Lit → Bool} (h : ∀ p ∈ M.map EM.ke, left (kl p.nm p.ty) = true) : OldQ M N left (N + 1) [] 0 :=
  ⟨fun m hm hl => (by
    have := h m.ke (List.mem_map.2 ⟨m, hm, rfl⟩)
    simp only [EM.ke] at this
    rw [this] at hl
    cases hl), .inl ⟨rfl, rfl, rfl⟩⟩
theorem left_or {left : Lit → Bool} {M : List EM} (hK : ∀ m ∈ M, KOk m.e.nm m.e.ty) {m m0 : EM} (hm : m ∈ M) (h0 : m0 ∈ M) (hn : NeQ (M.map EM.ke)) (h : (left (kl m.e.nm m.e.ty) && !(kl m.e.nm m.e.ty).sameKey (kl m0.e.nm m0.e.ty)) = false) : left (kl m.e.nm m.e.ty) = false ∨ m = m0 := by
  cases hl : left (kl m.e.nm m.e.ty)
  · exact .inl rfl
  · rw [hl, Bool.true_and, Bool.not_eq_false', kl_same] at h
    exact .inr (keyOnly hn h0 hm (kl_inj (hK m hm) (hK m0 h0) h))
theorem oldQ_stay {M : List EM} {N : Int} {left : Lit → Bool} {u : Int} {on : Bs} {ot : Int} (h : OldQ M N left u on ot) (hK : ∀ m ∈ M, KOk m.e.nm m.e.ty) (hn : NeQ (M.map EM.ke)) {m0 : EM} (h0 : m0 ∈ M) (hu : u ≤ m0.e.us) : OldQ M N (fun z => left z && !z.sameKey (kl m0.e.nm m0.e.ty)) u on ot :=
  ⟨fun m hm hl => by
    rcases left_or hK hm h0 hn hl with hl | rfl
    · exact h.1 m hm hl
    · exact hu, h.2⟩
theorem oldQ_new {M : List EM} {N : Int} {left : Lit → Bool} {u : Int} {on : Bs} {ot : Int} (h : OldQ M N left u on ot) (hK : ∀ m ∈ M, KOk m.e.nm m.e.ty) (hn : NeQ (M.map EM.ke)) {m0 : EM} (h0 : m0 ∈ M) (hu : m0.e.us < u) : OldQ M N (fun z => left z && !z.sameKey (kl m0.e.nm m0.e.ty)) m0.e.us m0.e.nm m0.e.ty :=
  ⟨fun m hm hl => by
    rcases left_or hK hm h0 hn hl with hl | rfl
    · have := h.1 m hm hl; omega
    · exact Int.le_refl _, .inr ⟨m0, h0, rfl, rfl, rfl⟩⟩
/-- all have come -/
theorem oldQ_end {M : List EM} {N : Int} {left : Lit → Bool} {u : Int} {on : Bs} {ot : Int} (h : OldQ M N left u on ot) (hl : ∀ l, left l = false) (hne : M ≠ []) (hN : ∀ m ∈ M, m.e.us ≤ N) (hn : NeQ (M.map EM.ke)) (hu : UNe (M.map (·.e))) (hk : KNe (M.map (·.e))) :
    (∃ m ∈ M, m.e.nm = on ∧ m.e.ty = ot) ∧ dropO (M.map (·.e)) = dropK (M.map (·.e)) on ot ∧ dropQ (M.map EM.ke) on ot = ((M.filter fun m => !isK on ot m.e).map EM.ke) := by
  have hall : ∀ m ∈ M, u ≤ m.e.us := fun m hm => h.1 m hm (hl _)
  rcases h.2 with ⟨h1, _⟩ | ⟨m0, hm0, h1, rfl, rfl⟩
  · cases M with
    | nil => exact absurd rfl hne
    | cons m M =>
      have := hall m (by simp)
      have := hN m (by simp)
      omega
  · refine ⟨⟨m0, hm0, rfl, rfl⟩, dropO_key hu hk (List.mem_map.2 ⟨m0, hm0, rfl⟩) (fun f hf => ?_), ?_⟩
    · obtain ⟨m, hm, rfl⟩ := List.mem_map.1 hf
      have := hall m hm
      omega
    · unfold dropQ
      rw [List.filter_map]
      rfl
theorem old_step {w1 w5 : World} {ob bm r : Nat} {L : List KE} {left : Lit → Bool} {cnt : Nat} (h : RangesQ w5 bm r L left cnt) (hU : Upd0 w1 w5) {a0 a1 : Value} (hob : w5.heap[ob]? = some (.cells #[a0, a1] 102 (0, 0))) (h1 : w1.heap.size ≤ ob) (h2 : ¬ bm = ob) (h3 : ¬ r = ob) (h4 : r < w5.heap.size) (h5 : bm < w5.heap.size) (x y : Value) (o : Obj) :
    RangesQ (((w5.setCell ⟨ob, 0, none⟩ x).setCell ⟨ob, 1, none⟩ y).alloc o).drew bm r L left cnt ∧ (Upd0 w1 (((w5.setCell ⟨ob, 0, none⟩ x).setCell ⟨ob, 1, none⟩ y).alloc o).drew ∧ r < (((w5.setCell ⟨ob, 0, none⟩ x).setCell ⟨ob, 1, none⟩ y).alloc o).drew.heap.size) ∧
      (((w5.setCell ⟨ob, 0, none⟩ x).setCell ⟨ob, 1, none⟩ y).alloc o).drew.heap[ob]? = some (.cells #[x, y] 102 (0, 0)) := by
  have hw : Upd (fun b => b = ob) w5 (((w5.setCell ⟨ob, 0, none⟩ x).setCell ⟨ob, 1, none⟩ y).alloc o).drew := ((((Upd.refl (fun b => b = ob) w5).setCell (p := ⟨ob, 0, none⟩) (fun _ => rfl) x).setCell (p := ⟨ob, 1, none⟩) (fun _ => rfl) y).alloc o).drew
  exact ⟨h.to (hw.keep bm h5 h2) (hw.keep r h4 h3), ⟨Upd.trans hU hw (fun q hq e => by omega), Nat.lt_of_lt_of_le h4 hw.size⟩, blk_alloc (two_put hob x y)⟩
theorem old_step0 {w1 w5 : World} {ob bm r : Nat} {L : List KE} {left : Lit → Bool} {cnt : Nat} (h : RangesQ w5 bm r L left cnt) (hU : Upd0 w1 w5) {o' : Obj} (hob : w5.heap[ob]? = some o') (h4 : r < w5.heap.size) (h5 : bm < w5.heap.size) (o : Obj) :
    RangesQ (w5.alloc o) bm r L left cnt ∧ (Upd0 w1 (w5.alloc o) ∧ r < (w5.alloc o).heap.size) ∧ (w5.alloc o).heap[ob]? = some o' := by
  have hw : Upd0 w5 (w5.alloc o) := (Upd.refl _ w5).alloc o
  exact ⟨h.to (hw.keep bm h5 (fun h => h)) (hw.keep r h4 (fun h => h)), ⟨hU.tr hw, Nat.lt_of_lt_of_le h4 hw.size⟩, blk_alloc hob⟩
set_option maxRecDepth 100000 in
set_option maxHeartbeats 4000000 in
theorem clear_w (t bm : Nat) (room most N now : Int) (L : List CE) (M : List EM) (w : World) (h : CaIs B w t bm room most N L M) (hok : COk ⟨room, most, N, L⟩) (hN : N ≤ 1000000) (hB : B ≤ w.heap.size) :
    Calls Try.prog 59 #[.pointer (some ⟨t, 0, none⟩), .int .i64 now] w (Rets fun r w' => r = .tuple #[] ∧ UpdQ B w w' ∧ ∃ M', CaIs B w' t bm room most N (clearL room L now) M') := by
  have hK : ∀ m ∈ M, KOk m.e.nm m.e.ty := fun m hm => (hok.ent m.e (by
    show m.e ∈ L
    rw [← h.abs]; exact List.mem_map.2 ⟨m, hm, rfl⟩)).kok
  have hn := Lib.hid (h.neq hok.keys)
  have hKh := Lib.hid hK
  have hh := Lib.hid h
  have hokh := Lib.hid hok
  have hr1 := hok.r1
  have hn0 := hok.n0
  simp only [] at hr1 hn0
  have htl := blk_lt h.blk
  have hbml := h.own.lt
  have htm := h.tm
  have hmt : ¬ bm = t := fun e => htm e.symm
  obtain ⟨c0, c1, c2, c3⟩ := set4 h.blk
  obtain ⟨M1, hM1⟩ : ∃ M1, (M.filter fun m => !(decide (m.e.en ≤ now))) = M1 := ⟨_, rfl⟩
  have hM1h := Lib.hid hM1
  have hsub := Lib.hid (show M1.Sublist M by rw [← hM1]; exact List.filter_sublist)
  have habs1 := Lib.hid (show M1.map (·.e) = overL L now by rw [← hM1]; exact map_filter_e h.abs (fun e => !decide (e.en ≤ now)))
  have hlen1 := Lib.hid (show ((M1.map EM.ke).length : Int) = (overL L now).length by rw [← habs1.out]; simp)
  obtain ⟨n1, hn1⟩ : ∃ n1, (overL L now).length = n1 := ⟨_, rfl⟩
  rw [hn1] at hlen1
  clear h hok hM1 hK
  by_cases hroom : (n1 : Int) < room
  · have hce := Lib.hid (show clearL room L now = overL L now by rw [clearL, hn1, if_pos hroom])
    go_enter Try.func59, Try.ntmps59
    go_wp2_with (first
      | (go_at_call 82; (with_reducible refine (delf_w bm _ now M _ (OwnsQ.to hh.out.own (by first | rfl | exact Below.heap_alloc _ _ _ hbml)) hn.out (fun m hm => (hh.out.ent m hm).to (show Upd0 w _ from (by repeat first | with_reducible (first | exact Upd.refl _ _ | assumption | apply Upd.drew | apply Upd.alloc) | refine Upd0.tr ?_ (by with_reducible assumption) | refine Upd.setCell ?_ (fun h => absurd h (by first | exact Nat.lt_irrefl _ | (simp only []; omega))) _)) (fun h => h) (fun _ _ _ _ h => h)) hKh.out (alloc_last _ _ _ rfl)).use ?_); rintro v w1 ⟨ho1, hu1⟩; rw [hM1h.out] at ho1; have ho1h := Lib.hid ho1; have hu1h := Lib.hid hu1; obtain ⟨d0, d1, d2, d3⟩ := set4 (hu1.block htm (blk_alloc hh.out.blk)); have hz1 := hu1.size; clear ho1 hu1)
      | (at_len; refine wpList_lenQ _ rfl _ rfl bm (M1.map EM.ke) rfl (OwnsQ.to ho1h.out rfl) _ hlen1.out ?_)
      | (with_reducible refine wp_serial (by kernel_rfl) (by kernel_rfl) (by repeat with_reducible (first | apply NoBad.then | apply NoBad.inBlock | apply NoBad.jump | exact NoBad.rets)) ?_) | fail)
    all_goals go_returns
    obtain ⟨a1, a2⟩ := (hh.out.to0 (show Upd0 w (w.alloc (.cells #[.int .i64 now] 3 (0, 0))) from (by repeat first | with_reducible (first | exact Upd.refl _ _ | assumption | apply Upd.drew | apply Upd.alloc) | refine Upd0.tr ?_ (by with_reducible assumption) | refine Upd.setCell ?_ (fun h => absurd h (by first | exact Nat.lt_irrefl _ | (simp only []; omega))) _))).map hu1h.out ho1h.out hsub.out habs1.out
    exact ⟨rfl, UpdQ.tr (UpdQ.of0 (show Upd0 w (w.alloc (.cells #[.int .i64 now] 3 (0, 0))) from (by repeat first | with_reducible (first | exact Upd.refl _ _ | assumption | apply Upd.drew | apply Upd.alloc) | refine Upd0.tr ?_ (by with_reducible assumption) | refine Upd.setCell ?_ (fun h => absurd h (by first | exact Nat.lt_irrefl _ | (simp only []; omega))) _))) (Upd.drew a2), M1, by rw [hce.out]; exact a1.to0 (show Upd0 w1 w1.drew from (by repeat first | with_reducible (first | exact Upd.refl _ _ | assumption | apply Upd.drew | apply Upd.alloc) | refine Upd0.tr ?_ (by with_reducible assumption) | refine Upd.setCell ?_ (fun h => absurd h (by first | exact Nat.lt_irrefl _ | (simp only []; omega))) _))⟩
  · have hce := Lib.hid (show clearL room L now = dropO (overL L now) by rw [clearL, hn1, if_neg hroom])
    have hroom' : room ≤ n1 := by omega
    have hne := Lib.hid (show M1 ≠ [] from fun e => by
      have := habs1.out
      rw [e] at this
      rw [← hn1, ← this] at hroom'
      simp at hroom'; omega)
    have hNm := Lib.hid (show ∀ m ∈ M1, m.e.us ≤ N from fun m hm => (hokh.out.ent m.e (by
      show m.e ∈ L
      rw [← hh.out.abs]; exact List.mem_map.2 ⟨m, hsub.out.subset hm, rfl⟩)).u.2)
    have hK1 := Lib.hid (show ∀ m ∈ M1, KOk m.e.nm m.e.ty from fun m hm => hKh.out m (hsub.out.subset hm))
    have hn1' := Lib.hid (show NeQ (M1.map EM.ke) from hn.out.sublist (hsub.out.map _))
    have hlt0 : ¬ (n1 : Int) < room := hroom
    have hw64 : wrap64 (N + 1) = N + 1 := by unfold wrap64; omega
    go_enter Try.func59, Try.ntmps59
    go_wp2_with (first
      | (go_at_call 82; (with_reducible refine (delf_w bm _ now M _ (OwnsQ.to hh.out.own (by first | rfl | exact Below.heap_alloc _ _ _ hbml)) hn.out (fun m hm => (hh.out.ent m hm).to (show Upd0 w _ from (by repeat first | with_reducible (first | exact Upd.refl _ _ | assumption | apply Upd.drew | apply Upd.alloc) | refine Upd0.tr ?_ (by with_reducible assumption) | refine Upd.setCell ?_ (fun h => absurd h (by first | exact Nat.lt_irrefl _ | (simp only []; omega))) _)) (fun h => h) (fun _ _ _ _ h => h)) hKh.out (alloc_last _ _ _ rfl)).use ?_); rintro v w1 ⟨ho1, hu1⟩; rw [hM1h.out] at ho1; have ho1h := Lib.hid ho1; have hu1h := Lib.hid hu1; obtain ⟨d0, d1, d2, d3⟩ := set4 (hu1.block htm (blk_alloc hh.out.blk)); have hz1 : w.heap.size + 1 ≤ w1.heap.size := (by have := hu1.size; simpa using this); have htl1 : t < w1.heap.size := (by omega); have hbl1 : bm < w1.heap.size := (by omega); clear ho1 hu1)
      | (at_len; refine wpList_lenQ _ rfl _ rfl bm (M1.map EM.ke) rfl (OwnsQ.to ho1h.out rfl) _ hlen1.out ?_)
      | (at_range; refine wpList_rangeQ _ rfl _ rfl bm (M1.map EM.ke) rfl (OwnsQ.to ho1h.out (Below.heap_alloc _ _ _ hbl1)) ?_; intro w4 r left hr hrg hall hg4 hs4)
      | (with_reducible refine wp_serial (by kernel_rfl) (by kernel_rfl) (by repeat with_reducible (first | apply NoBad.then | apply NoBad.inBlock | apply NoBad.jump | exact NoBad.rets)) ?_) | fail)
    obtain ⟨a1, a2⟩ := (hh.out.to0 (show Upd0 w (w.alloc (.cells #[.int .i64 now] 3 (0, 0))) from (by repeat first | with_reducible (first | exact Upd.refl _ _ | assumption | apply Upd.drew | apply Upd.alloc) | refine Upd0.tr ?_ (by with_reducible assumption) | refine Upd.setCell ?_ (fun h => absurd h (by first | exact Nat.lt_irrefl _ | (simp only []; omega))) _))).map hu1h.out ho1h.out hsub.out habs1.out
    have a1h := Lib.hid a1
    have a2h := Lib.hid (UpdQ.tr (UpdQ.of0 (show Upd0 w (w.alloc (.cells #[.int .i64 now] 3 (0, 0))) from (by repeat first | with_reducible (first | exact Upd.refl _ _ | assumption | apply Upd.drew | apply Upd.alloc) | refine Upd0.tr ?_ (by with_reducible assumption) | refine Upd.setCell ?_ (fun h => absurd h (by first | exact Nat.lt_irrefl _ | (simp only []; omega))) _))) a2)
    have hu4 : Upd0 (w1.drew.alloc (.cells #[.string ⟨([] : Bs).toArray⟩, .int .i64 0] 102 (0, 0))) w4 := (Upd.refl (fun _ => False) _).grown hg4 (fun _ h _ => by cases h)
    obtain ⟨ob, hob⟩ : ∃ ob, w1.heap.size = ob := ⟨_, rfl⟩
    have hob4 := Lib.hid (show w4.heap[ob]? = some (.cells #[.string ⟨([] : Bs).toArray⟩, .int .i64 0] 102 (0, 0)) from hu4.block (fun h => h) (alloc_last _ _ _ hob.symm))
    have hw14 : Upd0 w1 w4 := (show Upd0 w1 _ from ((Upd.refl (fun _ => False) w1).drew.alloc _)).tr hu4
    have hrl : ob < r := by rw [hr]; simp; omega
    have hs4' : r < w4.heap.size := by rw [hr]; omega
    have hold := Lib.hid (oldQ_start (N := N) (M := M1) hall)
    have hrgh := Lib.hid hrg
    have hz4 := hw14.size
    rw [hob]
    clear hrg hall hg4 hs4 hr a1 a2
    go_frame
    go_loopw [5] (fun u5 wr => ∃ (left : Lit → Bool) (cnt : Nat) (u : Int) (on : Bs) (ot : Int), u5 = .int .i64 u ∧ Hid (RangesQ wr bm r (M1.map EM.ke) left cnt) ∧ (Upd0 w1 wr ∧ r < wr.heap.size) ∧ Hid (wr.heap[ob]? = some (.cells #[.string ⟨on.toArray⟩, .int .i64 ot] 102 (0, 0))) ∧ Hid (OldQ M1 N left u on ot)) (fun _ wr => wr.rangeLeft bm r)
    case atStart => exact ⟨_, _, _, _, _, rfl, hrgh, ⟨hw14, hs4'⟩, hob4, hold⟩
    case round =>
      obtain ⟨left5, cnt5, u, on, ot, rfl, hrg5, ⟨hw1r, hrlt⟩, hobr, hold5⟩ := hrel
      obtain ⟨⟨s1, s2, s3, hit⟩, hleft⟩ := hrg5.out.iter
      have hith := Lib.hid hit
      have hlefth := Lib.hid hleft
      have hobl := blk_lt hobr.out
      obtain ⟨o0, o1, o2, o3⟩ := two2 hobr.out
      obtain ⟨e0, e1, e2, e3⟩ := set4 (hw1r.block (fun h => h) a1h.out.blk)
      clear hit hleft hrgh hold hob4
      go_wp2_with (first
        | (at_next; refine wpList_nextQ _ rfl _ rfl bm r _ hn1'.out left5 cnt5 rfl hrg5.out ?_ ?_)
        | (with_reducible refine wp_serial (by kernel_rfl) (by kernel_rfl) (by repeat with_reducible (first | apply NoBad.then | apply NoBad.inBlock | apply NoBad.jump | exact NoBad.rets)) ?_) | fail)
      · intro hall
        obtain ⟨⟨m0, hm0, k1, k2⟩, hdo, hdq⟩ := oldQ_end hold5.out hall hne.out hNm.out hn1'.out (by rw [habs1.out]; exact hokh.out.uss.sub (overL_sub L now)) (by rw [habs1.out]; exact hokh.out.keys.sub (overL_sub L now))
        have hdoh := Lib.hid hdo
        have hdqh := Lib.hid hdq
        have hko : KOk on ot := by rw [← k1, ← k2]; exact hK1.out m0 hm0
        have hown := Lib.hid hrg5.out.own
        clear hdo hdq hall
        go_wp2_with (first
          | (at_delete; refine wpList_delQ _ rfl _ _ rfl bm _ rfl (OwnsQ.to hown.out rfl) on ot rfl hko ?_; intro w6 ho6 hg6; have hu6 : Upd (fun b => b = bm) wr w6 := Upd.grown (Upd.refl _ _).drew hg6.grown (fun _ h _ => by cases h; rfl); have ho6h := Lib.hid ho6; clear ho6 hg6)
          | (with_reducible refine wp_serial (by kernel_rfl) (by kernel_rfl) (by repeat with_reducible (first | apply NoBad.then | apply NoBad.inBlock | apply NoBad.jump | exact NoBad.rets)) ?_) | fail)
        all_goals go_returns
        obtain ⟨b1, b2⟩ := (a1h.out.to0 hw1r).map hu6 (by rw [hdqh.out] at ho6h; exact ho6h.out) List.filter_sublist (map_filter_e rfl (fun e => !isK on ot e))
        refine ⟨rfl, (a2h.out.tr (UpdQ.of0 hw1r)).tr b2, M1.filter fun m => !isK on ot m.e, ?_⟩
        rw [hce.out, ← habs1.out, hdoh.out]
        exact b1
      · intro pp w5 cnt6 m0 hm0 hpe hlk hrg6 hlt hg5 hs5 hen
        subst hpe
        have hU5 : Upd (fun b => b = r) wr w5 := (Upd.refl _ _).grown hg5 (fun k h _ => by cases h; rfl)
        have hw15 : Upd0 w1 w5 := Upd.trans hw1r hU5 (fun q hq e => by omega)
        have hs5' : wr.heap.size = w5.heap.size := hs5.symm
        obtain ⟨⟨s4, s5, s6, hit6⟩, hleft6⟩ := hrg6.iter
        have hrg6h := Lib.hid hrg6
        have hleft6h := Lib.hid hleft6
        have hit6h := Lib.hid hit6
        have hlth := Lib.hid hlt
        have hob5 := Lib.hid (hU5.block (show ¬ ob = r by omega) hobr.out)
        obtain ⟨p0, p1, p2, p3⟩ := two2 hob5.out
        have hE5 := (a1h.out.to0 hw15).ent m0 hm0
        obtain ⟨x0, x1, x2, x3, x4, x5, x6⟩ := ent7 hE5
        have hm0l := blk_lt hE5.blk
        have hobl5 := blk_lt hob5.out
        have hrl5 : r < w5.heap.size := by omega
        have hbl5 : bm < w5.heap.size := by have := hw15.size; omega
        have hmo : ¬ m0.g = ob := fun e => by
          have k1 := hE5.blk
          rw [e, hob5.out] at k1
          injection k1 with k1
          injection k1 with _ k1 _
          exact absurd k1 (by decide)
        have hom : ¬ ob = m0.g := fun e => hmo e.symm
        have hbo : ¬ bm = ob := by omega
        have hro : ¬ r = ob := by omega
        simp only [EM.ke] at hen hlk hrg6h ⊢
        have hs5h := Lib.hid hs5'
        clear hs5 hs5' hlk hrg6 hlt hg5 hit6 hleft6 hE5 o0 o1 o2 o3 e0 e1 e2 e3
        by_cases hlu : m0.e.us < u
        · have hnew := Lib.hid (oldQ_new hold5.out hK1.out hn1'.out hm0 hlu)
          have hst := Lib.hid (old_step hrg6h.out hw15 hob5.out (by omega) hbo hro hrl5 hbl5 (.string ⟨m0.e.nm.toArray⟩) (.int .i64 m0.e.ty) (.cells #[.string ⟨m0.e.nm.toArray⟩, .int .i64 m0.e.ty] 102 (0, 0)))
          go_wp2_with (first
            | (with_reducible refine wp_serial2 4 5 [0, 1, 2, 3, 5, 4, 6] [_, _, _, _, _, _, _] (by kernel_rfl) (by decide +kernel) rfl (by repeat with_reducible (first | apply NoBad.then | apply NoBad.inBlock | apply NoBad.jump | exact NoBad.rets)) ?_ ?_)
            | (with_reducible refine wp_serial (by kernel_rfl) (by kernel_rfl) (by repeat with_reducible (first | apply NoBad.then | apply NoBad.inBlock | apply NoBad.jump | exact NoBad.rets)) ?_) | fail)
          all_goals go_roundw
          all_goals first
            | exact ⟨_, _, _, _, _, rfl, Lib.hid hst.out.1, hst.out.2.1, Lib.hid hst.out.2.2, hnew⟩
            | (rw [hlefth.out, hst.out.1.iter.2]; exact hlth.out)
        · have hsy := Lib.hid (oldQ_stay hold5.out hK1.out hn1'.out hm0 (by omega))
          have hst := Lib.hid (old_step0 hrg6h.out hw15 hob5.out hrl5 hbl5 (.cells #[.string ⟨m0.e.nm.toArray⟩, .int .i64 m0.e.ty] 102 (0, 0)))
          go_wp2_with (first
            | (with_reducible refine wp_serial (by kernel_rfl) (by kernel_rfl) (by repeat with_reducible (first | apply NoBad.then | apply NoBad.inBlock | apply NoBad.jump | exact NoBad.rets)) ?_) | fail)
          refine ⟨⟨_, _, _, _, _, rfl, Lib.hid hst.out.1, hst.out.2.1, Lib.hid hst.out.2.2, hsy⟩, ?_⟩
          rw [hlefth.out, hst.out.1.iter.2]; exact hlth.out
end Go.Proofs.Ytijmbpokglohbaa
