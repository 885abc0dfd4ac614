/-
  The program's writer: a record's data.
-/
import Derived.Test.YtgdejgfmhndbhaaWrR
import Derived.Test.YtgdejgfmhndbhaaKb
namespace Go.Proofs.Ytgdejgfmhndbhaa
open Go.RowKit Go.Maps
set_option linter.unusedSimpArgs false
set_option linter.unusedVariables false
variable {B : Nat}
set_option maxRecDepth 100000 in
set_option maxHeartbeats 4000000 in
theorem data_host (t : Nat) (s : Wr) (nm : Bs) (ty tl : Int) (d : Bs) (w : World) (h : WrM B w t s) (hl : s.b.length ≤ 30000000) (hg : Rc.Good ⟨nm, ty, tl, d⟩) (h6 : ¬ ty = 6) (hp : phC ty d = 0) (h33 : ¬ ty = 33) :
    Calls Try.prog 35 #[.pointer (some ⟨t, 0, none⟩), .agg #[.string ⟨nm.toArray⟩, .int .i64 ty, .int .i64 tl, .string ⟨d.toArray⟩]] w (Rets fun r w' => r = .tuple #[] ∧ UpdW B w w' ∧ WrM B w' t (dataW ⟨nm, ty, tl, d⟩ s)) := by
  have hh := Lib.hid h
  have hld := hg.len
  simp only [] at hld
  have hbl := body_len hg (s.add (wd2 0))
  have hsl : (s.add (wd2 0)).b.length = s.b.length + 2 := by simp [Wr.add, wd2]
  rw [hsl] at hbl
  obtain ⟨Z, hZ⟩ : ∃ Z, bodyW ⟨nm, ty, tl, d⟩ (s.add (wd2 0)) = Z := ⟨_, rfl⟩
  rw [hZ] at hbl
  have hb0 : Z.b.length ≤ s.b.length + 2 + d.length + 2 := hbl.1
  have hb1 := hbl.2
  have hlt := h.lt
  have hne1 : ¬ t = w.heap.size := by omega
  have hne2 : ¬ w.heap.size = t := by omega
  have hZh := Lib.hid hZ
  obtain ⟨hok0, v0, mb0, nn0, D0, hI0⟩ := h
  obtain ⟨ao0, cap0, rfl⟩ := hI0.row.isSlice
  obtain ⟨c0, c1, c2⟩ := two_w hI0.blk
  clear hok0 hI0 hbl hg hZ
  obtain ⟨hp1, hp2⟩ := host_parts hp
  have hbody := Lib.hid (body_host (r := ⟨nm, ty, tl, d⟩) (s.add (wd2 0)) h6 hp h33)
  have hpl : (phN ty d).length ≤ 254 := (cut_lab hp1).1
  have hnl := nameW_len ((s.add (wd2 0)).add (d.take (d.length - (phN ty d).length - 1))) hp1
  have hPh : ∀ w, Calls Try.prog 56 #[.int .i64 ty, .string ⟨d.toArray⟩] w (Rets fun r w' => r = .tuple #[.string ⟨(phN ty d).toArray⟩, .int .i64 0] ∧ Upd0 w w') := fun w => hp ▸ parseHost_w ty d (by omega) w
  have hPh := Lib.hid hPh
  have hp1h := Lib.hid hp1
  clear hp hp1
  go_enter Try.func35, Try.ntmps35
  go_wp2_with (first
    | (go_at_call 31; (with_reducible refine (word_z t s 0 0 rfl _ (hh.out.to0 (by repeat first | with_reducible (first | exact Upd.refl _ _ | assumption | apply Upd.drew | apply Upd.alloc) | refine Upd0.tr ?_ (by with_reducible assumption) | refine Upd.setCell ?_ (fun h => absurd h (by first | exact Nat.lt_irrefl _ | (simp only []; omega))) _)) (by omega) (by omega)).use ?_); rintro v w1 ⟨rfl, hu1, hc1⟩; have k1 := Lib.hid hc1; clear hc1; have bq1 := Lib.hid (show w1.heap[w.heap.size]? = some (.cells #[.string ⟨nm.toArray⟩, .int .i64 ty, .int .i64 tl, .string ⟨d.toArray⟩] 46 (0, 0)) from hu1.other (by first | exact alloc_last _ _ _ rfl | exact blk_alloc (alloc_last _ _ _ rfl) | exact blk_alloc (blk_alloc (alloc_last _ _ _ rfl))) rfl); obtain ⟨q10, q11, q12, q13⟩ := cell4w bq1.out; have hlq1 := blk_lt bq1.out; have neq1 : ¬ w.heap.size = w1.heap.size := (by omega); have nfq1 : ¬ w1.heap.size = w.heap.size := (by omega))
    | (go_at_call 56; (with_reducible refine (hPh.out _).use ?_); rintro v w2 ⟨rfl, hu2⟩; have k2 := Lib.hid (k1.out.to0 hu2); have bq2 := Lib.hid (show w2.heap[w.heap.size]? = some (.cells #[.string ⟨nm.toArray⟩, .int .i64 ty, .int .i64 tl, .string ⟨d.toArray⟩] 46 (0, 0)) from hu2.block (fun h => h) (by first | exact bq1.out | exact blk_alloc bq1.out | exact blk_alloc (blk_alloc bq1.out) | exact blk_alloc (blk_alloc (blk_alloc bq1.out)))); obtain ⟨q20, q21, q22, q23⟩ := cell4w bq2.out; have hlq2 := blk_lt bq2.out; have neq2 : ¬ w.heap.size = w2.heap.size := (by omega); have nfq2 : ¬ w2.heap.size = w.heap.size := (by omega))
    | (go_at_call 55; (with_reducible refine (text_w t (s.add (wd2 0)) (d.take (d.length - (phN ty d).length - 1)) _ k2.out (by simp [Wr.add, wd2]; omega) (by simp; omega)).use ?_); rintro v w3 ⟨rfl, hu3, hc3⟩; have k3 := Lib.hid hc3; clear hc3; have bq3 := Lib.hid (show w3.heap[w.heap.size]? = some (.cells #[.string ⟨nm.toArray⟩, .int .i64 ty, .int .i64 tl, .string ⟨d.toArray⟩] 46 (0, 0)) from hu3.other (by first | exact bq2.out | exact blk_alloc bq2.out | exact blk_alloc (blk_alloc bq2.out) | exact blk_alloc (blk_alloc (blk_alloc bq2.out))) rfl); obtain ⟨q30, q31, q32, q33⟩ := cell4w bq3.out; have hlq3 := blk_lt bq3.out; have neq3 : ¬ w.heap.size = w3.heap.size := (by omega); have nfq3 : ¬ w3.heap.size = w.heap.size := (by omega))
    | (go_at_call 33; (with_reducible refine (name_w (phN ty d) hp1h.out t _ _ k3.out (by simp [Wr.add, wd2]; omega)).use ?_); rintro v w4 ⟨rfl, hu4, hc4⟩; rw [← hbody.out, hZh.out] at hc4; have k4 := Lib.hid hc4; have k4l := Lib.hid (And.intro hb0 hb1); clear hc4; have bq4 := Lib.hid (show w4.heap[w.heap.size]? = some (.cells #[.string ⟨nm.toArray⟩, .int .i64 ty, .int .i64 tl, .string ⟨d.toArray⟩] 46 (0, 0)) from hu4.other (by first | exact bq3.out | exact blk_alloc bq3.out | exact blk_alloc (blk_alloc bq3.out) | exact blk_alloc (blk_alloc (blk_alloc bq3.out))) rfl); obtain ⟨q40, q41, q42, q43⟩ := cell4w bq4.out; have hlq4 := blk_lt bq4.out; have neq4 : ¬ w.heap.size = w4.heap.size := (by omega); have nfq4 : ¬ w4.heap.size = w.heap.size := (by omega); obtain ⟨hokz, vz, mbz, nnz, Dz, hIz⟩ := k4.out; obtain ⟨aoz, capz, rfl⟩ := hIz.row.isSlice; have hlz := k4l.out; obtain ⟨gz, rfl, _⟩ := hIz.row.ptr (by omega); obtain ⟨z0, z1, z2⟩ := two_w hIz.blk; have f0 := hIz.row.frz (i := s.b.length) (by omega); have f1 := hIz.row.frz (i := s.b.length + 1) (by omega); have f2 := hIz.row.cell (i := s.b.length) (by omega); have f3 := hIz.row.cell (i := s.b.length + 1) (by omega); have hIzh := Lib.hid hIz; have hlz1 : (s.b.length : Int) < Z.b.length := (by omega); have hlz2 : (s.b.length : Int) + 1 < Z.b.length := (by omega); clear hIz hokz)
    | ((with_reducible refine S5.wp_serial3_0 105 [4, 9] [0, 1, 2, 4, 5, 6, 7, 9, 10, 11, 12, 13, 14, 15, 3, 8, 16, 17, 18, 19] [_, _, _, _, _, _, _, _, _, _, _, _, _, _, _, _, _, _, _, _] (by kernel_rfl) (by decide +kernel) rfl (by refine ⟨by first | decide | simp, fun s hs => ?_⟩; simp only [List.mem_cons, List.not_mem_nil, or_false] at hs; rcases hs with rfl | rfl <;> first | rfl | simp [go_sem, S5.isI, Act.eval]) (by repeat with_reducible (first | apply NoBad.then | apply NoBad.inBlock | apply NoBad.jump | exact NoBad.rets)) ?_))
    | (with_reducible refine wp_serial (by kernel_rfl) (by kernel_rfl) (by repeat with_reducible (first | apply NoBad.then | apply NoBad.inBlock | apply NoBad.jump | exact NoBad.rets)) ?_) | fail)
  all_goals go_returns
  have hokz := k4.out.1
  obtain ⟨p1, p2⟩ := hIzh.out.patch s.b.length (UInt8.ofNat ((Z.b.length - s.b.length - 2) / 256)) (UInt8.ofNat (Z.b.length - s.b.length - 2))
  have e1 : ((Z.b.length : Int) - s.b.length - 2) / 256 = ((UInt8.ofNat ((Z.b.length - s.b.length - 2) / 256)).toNat : Int) := by rw [UInt8.toNat_ofNat']; omega
  have e2 : ((Z.b.length : Int) - s.b.length - 2) % 256 = ((UInt8.ofNat (Z.b.length - s.b.length - 2)).toNat : Int) := by rw [UInt8.toNat_ofNat']; omega
  rw [e1, e2]
  refine ⟨rfl, ((((((UpdW.of0 (show Upd0 w (w.alloc _) from (by repeat first | with_reducible (first | exact Upd.refl _ _ | assumption | apply Upd.drew | apply Upd.alloc) | refine Upd0.tr ?_ (by with_reducible assumption) | refine Upd.setCell ?_ (fun h => absurd h (by first | exact Nat.lt_irrefl _ | (simp only []; omega))) _))).tr hu1).tr (UpdW.of0 hu2)).tr hu3).tr hu4).tr p2).tr (UpdW.of0 (by repeat first | with_reducible (first | exact Upd.refl _ _ | assumption | apply Upd.drew | apply Upd.alloc) | refine Upd0.tr ?_ (by with_reducible assumption) | refine Upd.setCell ?_ (fun h => absurd h (by first | exact Nat.lt_irrefl _ | (simp only []; omega))) _)), ?_⟩
  rw [data_eq, hZh.out]
  exact WrM.to0 (w := (w4.setCell ⟨gz, s.b.length, none⟩ (.int .u8 (UInt8.ofNat ((Z.b.length - s.b.length - 2) / 256)).toNat)).setCell ⟨gz, s.b.length + 1, none⟩ (.int .u8 (UInt8.ofNat (Z.b.length - s.b.length - 2)).toNat)) ⟨hokz.same (set2_len _ _ _), _, _, _, _, p1⟩ (by repeat first | with_reducible (first | exact Upd.refl _ _ | assumption | apply Upd.drew | apply Upd.alloc) | refine Upd0.tr ?_ (by with_reducible assumption) | refine Upd.setCell ?_ (fun h => absurd h (by first | exact Nat.lt_irrefl _ | (simp only []; omega))) _)
set_option maxRecDepth 100000 in
set_option maxHeartbeats 4000000 in
theorem data_txt (t : Nat) (s : Wr) (nm : Bs) (ty tl : Int) (d : Bs) (w : World) (h : WrM B w t s) (hl : s.b.length ≤ 30000000) (hg : Rc.Good ⟨nm, ty, tl, d⟩) (h6 : ¬ ty = 6) (hp : ¬ (phC ty d = 0 ∧ ty ≠ 33)) :
    Calls Try.prog 35 #[.pointer (some ⟨t, 0, none⟩), .agg #[.string ⟨nm.toArray⟩, .int .i64 ty, .int .i64 tl, .string ⟨d.toArray⟩]] w (Rets fun r w' => r = .tuple #[] ∧ UpdW B w w' ∧ WrM B w' t (dataW ⟨nm, ty, tl, d⟩ s)) := by
  have hh := Lib.hid h
  have hld := hg.len
  simp only [] at hld
  have hbl := body_len hg (s.add (wd2 0))
  have hsl : (s.add (wd2 0)).b.length = s.b.length + 2 := by simp [Wr.add, wd2]
  rw [hsl] at hbl
  obtain ⟨Z, hZ⟩ : ∃ Z, bodyW ⟨nm, ty, tl, d⟩ (s.add (wd2 0)) = Z := ⟨_, rfl⟩
  rw [hZ] at hbl
  have hb0 : Z.b.length ≤ s.b.length + 2 + d.length + 2 := hbl.1
  have hb1 := hbl.2
  have hlt := h.lt
  have hne1 : ¬ t = w.heap.size := by omega
  have hne2 : ¬ w.heap.size = t := by omega
  have hZh := Lib.hid hZ
  obtain ⟨hok0, v0, mb0, nn0, D0, hI0⟩ := h
  obtain ⟨ao0, cap0, rfl⟩ := hI0.row.isSlice
  obtain ⟨c0, c1, c2⟩ := two_w hI0.blk
  clear hok0 hI0 hbl hg hZ
  have hbody := Lib.hid (body_txt (r := ⟨nm, ty, tl, d⟩) (s.add (wd2 0)) h6 hp)
  have hcase : ¬ phC ty d = 0 ∨ (phC ty d = 0 ∧ ty = 33) := by
    by_cases h0 : phC ty d = 0
    · by_cases h3 : ty = 33
      · exact .inr ⟨h0, h3⟩
      · exact absurd ⟨h0, h3⟩ hp
    · exact .inl h0
  clear hp
  have hPh : ∀ w, Calls Try.prog 56 #[.int .i64 ty, .string ⟨d.toArray⟩] w (Rets fun r w' => r = .tuple #[.string ⟨(phN ty d).toArray⟩, .int .i64 (phC ty d)] ∧ Upd0 w w') := fun w => parseHost_w ty d (by omega) w
  obtain ⟨C, hC⟩ : ∃ C, phC ty d = C := ⟨_, rfl⟩
  rw [hC] at hcase hPh
  have hPh := Lib.hid hPh
  clear hC
  rcases hcase with hc0 | ⟨rfl, h33⟩
  · go_enter Try.func35, Try.ntmps35
    go_wp2_with (first
      | (go_at_call 31; (with_reducible refine (word_z t s 0 0 rfl _ (hh.out.to0 (by repeat first | with_reducible (first | exact Upd.refl _ _ | assumption | apply Upd.drew | apply Upd.alloc) | refine Upd0.tr ?_ (by with_reducible assumption) | refine Upd.setCell ?_ (fun h => absurd h (by first | exact Nat.lt_irrefl _ | (simp only []; omega))) _)) (by omega) (by omega)).use ?_); rintro v w1 ⟨rfl, hu1, hc1⟩; have k1 := Lib.hid hc1; clear hc1; have bq1 := Lib.hid (show w1.heap[w.heap.size]? = some (.cells #[.string ⟨nm.toArray⟩, .int .i64 ty, .int .i64 tl, .string ⟨d.toArray⟩] 46 (0, 0)) from hu1.other (by first | exact alloc_last _ _ _ rfl | exact blk_alloc (alloc_last _ _ _ rfl) | exact blk_alloc (blk_alloc (alloc_last _ _ _ rfl))) rfl); obtain ⟨q10, q11, q12, q13⟩ := cell4w bq1.out; have hlq1 := blk_lt bq1.out; have neq1 : ¬ w.heap.size = w1.heap.size := (by omega); have nfq1 : ¬ w1.heap.size = w.heap.size := (by omega))
      | (go_at_call 56; (with_reducible refine (hPh.out _).use ?_); rintro v w2 ⟨rfl, hu2⟩; have k2 := Lib.hid (k1.out.to0 hu2); have bq2 := Lib.hid (show w2.heap[w.heap.size]? = some (.cells #[.string ⟨nm.toArray⟩, .int .i64 ty, .int .i64 tl, .string ⟨d.toArray⟩] 46 (0, 0)) from hu2.block (fun h => h) (by first | exact bq1.out | exact blk_alloc bq1.out | exact blk_alloc (blk_alloc bq1.out) | exact blk_alloc (blk_alloc (blk_alloc bq1.out)))); obtain ⟨q20, q21, q22, q23⟩ := cell4w bq2.out; have hlq2 := blk_lt bq2.out; have neq2 : ¬ w.heap.size = w2.heap.size := (by omega); have nfq2 : ¬ w2.heap.size = w.heap.size := (by omega))
      | (go_at_call 55; (with_reducible refine (text_w t (s.add (wd2 0)) d _ k2.out (by simp [Wr.add, wd2]; omega) (by omega)).use ?_); rintro v w3 ⟨rfl, hu3, hc3⟩; rw [← hbody.out, hZh.out] at hc3; have k3 := Lib.hid hc3; have k3l := Lib.hid (And.intro hb0 hb1); clear hc3; have bq3 := Lib.hid (show w3.heap[w.heap.size]? = some (.cells #[.string ⟨nm.toArray⟩, .int .i64 ty, .int .i64 tl, .string ⟨d.toArray⟩] 46 (0, 0)) from hu3.other (by first | exact bq2.out | exact blk_alloc bq2.out | exact blk_alloc (blk_alloc bq2.out) | exact blk_alloc (blk_alloc (blk_alloc bq2.out))) rfl); obtain ⟨q30, q31, q32, q33⟩ := cell4w bq3.out; have hlq3 := blk_lt bq3.out; have neq3 : ¬ w.heap.size = w3.heap.size := (by omega); have nfq3 : ¬ w3.heap.size = w.heap.size := (by omega); obtain ⟨hokz, vz, mbz, nnz, Dz, hIz⟩ := k3.out; obtain ⟨aoz, capz, rfl⟩ := hIz.row.isSlice; have hlz := k3l.out; obtain ⟨gz, rfl, _⟩ := hIz.row.ptr (by omega); obtain ⟨z0, z1, z2⟩ := two_w hIz.blk; have f0 := hIz.row.frz (i := s.b.length) (by omega); have f1 := hIz.row.frz (i := s.b.length + 1) (by omega); have f2 := hIz.row.cell (i := s.b.length) (by omega); have f3 := hIz.row.cell (i := s.b.length + 1) (by omega); have hIzh := Lib.hid hIz; have hlz1 : (s.b.length : Int) < Z.b.length := (by omega); have hlz2 : (s.b.length : Int) + 1 < Z.b.length := (by omega); clear hIz hokz)
      | ((with_reducible refine S5.wp_serial3_0 105 [4, 9] [0, 1, 2, 4, 5, 6, 7, 9, 10, 11, 12, 13, 14, 15, 3, 8, 16, 17, 18, 19] [_, _, _, _, _, _, _, _, _, _, _, _, _, _, _, _, _, _, _, _] (by kernel_rfl) (by decide +kernel) rfl (by refine ⟨by first | decide | simp, fun s hs => ?_⟩; simp only [List.mem_cons, List.not_mem_nil, or_false] at hs; rcases hs with rfl | rfl <;> first | rfl | simp [go_sem, S5.isI, Act.eval]) (by repeat with_reducible (first | apply NoBad.then | apply NoBad.inBlock | apply NoBad.jump | exact NoBad.rets)) ?_))
      | (with_reducible refine wp_serial (by kernel_rfl) (by kernel_rfl) (by repeat with_reducible (first | apply NoBad.then | apply NoBad.inBlock | apply NoBad.jump | exact NoBad.rets)) ?_) | fail)
    all_goals go_returns
    have hokz := k3.out.1
    obtain ⟨p1, p2⟩ := hIzh.out.patch s.b.length (UInt8.ofNat ((Z.b.length - s.b.length - 2) / 256)) (UInt8.ofNat (Z.b.length - s.b.length - 2))
    have e1 : ((Z.b.length : Int) - s.b.length - 2) / 256 = ((UInt8.ofNat ((Z.b.length - s.b.length - 2) / 256)).toNat : Int) := by rw [UInt8.toNat_ofNat']; omega
    have e2 : ((Z.b.length : Int) - s.b.length - 2) % 256 = ((UInt8.ofNat (Z.b.length - s.b.length - 2)).toNat : Int) := by rw [UInt8.toNat_ofNat']; omega
    rw [e1, e2]
    refine ⟨rfl, (((((UpdW.of0 (show Upd0 w (w.alloc _) from (by repeat first | with_reducible (first | exact Upd.refl _ _ | assumption | apply Upd.drew | apply Upd.alloc) | refine Upd0.tr ?_ (by with_reducible assumption) | refine Upd.setCell ?_ (fun h => absurd h (by first | exact Nat.lt_irrefl _ | (simp only []; omega))) _))).tr hu1).tr (UpdW.of0 hu2)).tr hu3).tr p2).tr (UpdW.of0 (by repeat first | with_reducible (first | exact Upd.refl _ _ | assumption | apply Upd.drew | apply Upd.alloc) | refine Upd0.tr ?_ (by with_reducible assumption) | refine Upd.setCell ?_ (fun h => absurd h (by first | exact Nat.lt_irrefl _ | (simp only []; omega))) _)), ?_⟩
    rw [data_eq, hZh.out]
    exact WrM.to0 (w := (w3.setCell ⟨gz, s.b.length, none⟩ (.int .u8 (UInt8.ofNat ((Z.b.length - s.b.length - 2) / 256)).toNat)).setCell ⟨gz, s.b.length + 1, none⟩ (.int .u8 (UInt8.ofNat (Z.b.length - s.b.length - 2)).toNat)) ⟨hokz.same (set2_len _ _ _), _, _, _, _, p1⟩ (by repeat first | with_reducible (first | exact Upd.refl _ _ | assumption | apply Upd.drew | apply Upd.alloc) | refine Upd0.tr ?_ (by with_reducible assumption) | refine Upd.setCell ?_ (fun h => absurd h (by first | exact Nat.lt_irrefl _ | (simp only []; omega))) _)
  · subst h33
    go_enter Try.func35, Try.ntmps35
    go_wp2_with (first
      | (go_at_call 31; (with_reducible refine (word_z t s 0 0 rfl _ (hh.out.to0 (by repeat first | with_reducible (first | exact Upd.refl _ _ | assumption | apply Upd.drew | apply Upd.alloc) | refine Upd0.tr ?_ (by with_reducible assumption) | refine Upd.setCell ?_ (fun h => absurd h (by first | exact Nat.lt_irrefl _ | (simp only []; omega))) _)) (by omega) (by omega)).use ?_); rintro v w1 ⟨rfl, hu1, hc1⟩; have k1 := Lib.hid hc1; clear hc1; have bq1 := Lib.hid (show w1.heap[w.heap.size]? = some (.cells #[.string ⟨nm.toArray⟩, .int .i64 33, .int .i64 tl, .string ⟨d.toArray⟩] 46 (0, 0)) from hu1.other (by first | exact alloc_last _ _ _ rfl | exact blk_alloc (alloc_last _ _ _ rfl) | exact blk_alloc (blk_alloc (alloc_last _ _ _ rfl))) rfl); obtain ⟨q10, q11, q12, q13⟩ := cell4w bq1.out; have hlq1 := blk_lt bq1.out; have neq1 : ¬ w.heap.size = w1.heap.size := (by omega); have nfq1 : ¬ w1.heap.size = w.heap.size := (by omega))
      | (go_at_call 56; (with_reducible refine (hPh.out _).use ?_); rintro v w2 ⟨rfl, hu2⟩; have k2 := Lib.hid (k1.out.to0 hu2); have bq2 := Lib.hid (show w2.heap[w.heap.size]? = some (.cells #[.string ⟨nm.toArray⟩, .int .i64 33, .int .i64 tl, .string ⟨d.toArray⟩] 46 (0, 0)) from hu2.block (fun h => h) (by first | exact bq1.out | exact blk_alloc bq1.out | exact blk_alloc (blk_alloc bq1.out) | exact blk_alloc (blk_alloc (blk_alloc bq1.out)))); obtain ⟨q20, q21, q22, q23⟩ := cell4w bq2.out; have hlq2 := blk_lt bq2.out; have neq2 : ¬ w.heap.size = w2.heap.size := (by omega); have nfq2 : ¬ w2.heap.size = w.heap.size := (by omega))
      | (go_at_call 55; (with_reducible refine (text_w t (s.add (wd2 0)) d _ k2.out (by simp [Wr.add, wd2]; omega) (by omega)).use ?_); rintro v w3 ⟨rfl, hu3, hc3⟩; rw [← hbody.out, hZh.out] at hc3; have k3 := Lib.hid hc3; have k3l := Lib.hid (And.intro hb0 hb1); clear hc3; have bq3 := Lib.hid (show w3.heap[w.heap.size]? = some (.cells #[.string ⟨nm.toArray⟩, .int .i64 33, .int .i64 tl, .string ⟨d.toArray⟩] 46 (0, 0)) from hu3.other (by first | exact bq2.out | exact blk_alloc bq2.out | exact blk_alloc (blk_alloc bq2.out) | exact blk_alloc (blk_alloc (blk_alloc bq2.out))) rfl); obtain ⟨q30, q31, q32, q33⟩ := cell4w bq3.out; have hlq3 := blk_lt bq3.out; have neq3 : ¬ w.heap.size = w3.heap.size := (by omega); have nfq3 : ¬ w3.heap.size = w.heap.size := (by omega); obtain ⟨hokz, vz, mbz, nnz, Dz, hIz⟩ := k3.out; obtain ⟨aoz, capz, rfl⟩ := hIz.row.isSlice; have hlz := k3l.out; obtain ⟨gz, rfl, _⟩ := hIz.row.ptr (by omega); obtain ⟨z0, z1, z2⟩ := two_w hIz.blk; have f0 := hIz.row.frz (i := s.b.length) (by omega); have f1 := hIz.row.frz (i := s.b.length + 1) (by omega); have f2 := hIz.row.cell (i := s.b.length) (by omega); have f3 := hIz.row.cell (i := s.b.length + 1) (by omega); have hIzh := Lib.hid hIz; have hlz1 : (s.b.length : Int) < Z.b.length := (by omega); have hlz2 : (s.b.length : Int) + 1 < Z.b.length := (by omega); clear hIz hokz)
      | ((with_reducible refine S5.wp_serial3_0 105 [4, 9] [0, 1, 2, 4, 5, 6, 7, 9, 10, 11, 12, 13, 14, 15, 3, 8, 16, 17, 18, 19] [_, _, _, _, _, _, _, _, _, _, _, _, _, _, _, _, _, _, _, _] (by kernel_rfl) (by decide +kernel) rfl (by refine ⟨by first | decide | simp, fun s hs => ?_⟩; simp only [List.mem_cons, List.not_mem_nil, or_false] at hs; rcases hs with rfl | rfl <;> first | rfl | simp [go_sem, S5.isI, Act.eval]) (by repeat with_reducible (first | apply NoBad.then | apply NoBad.inBlock | apply NoBad.jump | exact NoBad.rets)) ?_))
      | (with_reducible refine wp_serial (by kernel_rfl) (by kernel_rfl) (by repeat with_reducible (first | apply NoBad.then | apply NoBad.inBlock | apply NoBad.jump | exact NoBad.rets)) ?_) | fail)
    all_goals go_returns
    have hokz := k3.out.1
    obtain ⟨p1, p2⟩ := hIzh.out.patch s.b.length (UInt8.ofNat ((Z.b.length - s.b.length - 2) / 256)) (UInt8.ofNat (Z.b.length - s.b.length - 2))
    have e1 : ((Z.b.length : Int) - s.b.length - 2) / 256 = ((UInt8.ofNat ((Z.b.length - s.b.length - 2) / 256)).toNat : Int) := by rw [UInt8.toNat_ofNat']; omega
    have e2 : ((Z.b.length : Int) - s.b.length - 2) % 256 = ((UInt8.ofNat (Z.b.length - s.b.length - 2)).toNat : Int) := by rw [UInt8.toNat_ofNat']; omega
    rw [e1, e2]
    refine ⟨rfl, (((((UpdW.of0 (show Upd0 w (w.alloc _) from (by repeat first | with_reducible (first | exact Upd.refl _ _ | assumption | apply Upd.drew | apply Upd.alloc) | refine Upd0.tr ?_ (by with_reducible assumption) | refine Upd.setCell ?_ (fun h => absurd h (by first | exact Nat.lt_irrefl _ | (simp only []; omega))) _))).tr hu1).tr (UpdW.of0 hu2)).tr hu3).tr p2).tr (UpdW.of0 (by repeat first | with_reducible (first | exact Upd.refl _ _ | assumption | apply Upd.drew | apply Upd.alloc) | refine Upd0.tr ?_ (by with_reducible assumption) | refine Upd.setCell ?_ (fun h => absurd h (by first | exact Nat.lt_irrefl _ | (simp only []; omega))) _)), ?_⟩
    rw [data_eq, hZh.out]
    exact WrM.to0 (w := (w3.setCell ⟨gz, s.b.length, none⟩ (.int .u8 (UInt8.ofNat ((Z.b.length - s.b.length - 2) / 256)).toNat)).setCell ⟨gz, s.b.length + 1, none⟩ (.int .u8 (UInt8.ofNat (Z.b.length - s.b.length - 2)).toNat)) ⟨hokz.same (set2_len _ _ _), _, _, _, _, p1⟩ (by repeat first | with_reducible (first | exact Upd.refl _ _ | assumption | apply Upd.drew | apply Upd.alloc) | refine Upd0.tr ?_ (by with_reducible assumption) | refine Upd.setCell ?_ (fun h => absurd h (by first | exact Nat.lt_irrefl _ | (simp only []; omega))) _)
set_option maxRecDepth 100000 in
set_option maxHeartbeats 4000000 in
theorem data_soa (t : Nat) (s : Wr) (nm : Bs) (ty tl : Int) (d : Bs) (w : World) (h : WrM B w t s) (hl : s.b.length ≤ 30000000) (hg : Rc.Good ⟨nm, ty, tl, d⟩) (h6 : ty = 6) :
    Calls Try.prog 35 #[.pointer (some ⟨t, 0, none⟩), .agg #[.string ⟨nm.toArray⟩, .int .i64 ty, .int .i64 tl, .string ⟨d.toArray⟩]] w (Rets fun r w' => r = .tuple #[] ∧ UpdW B w w' ∧ WrM B w' t (dataW ⟨nm, ty, tl, d⟩ s)) := by
  have hh := Lib.hid h
  have hld := hg.len
  simp only [] at hld
  have hbl := body_len hg (s.add (wd2 0))
  have hsl : (s.add (wd2 0)).b.length = s.b.length + 2 := by simp [Wr.add, wd2]
  rw [hsl] at hbl
  obtain ⟨Z, hZ⟩ : ∃ Z, bodyW ⟨nm, ty, tl, d⟩ (s.add (wd2 0)) = Z := ⟨_, rfl⟩
  rw [hZ] at hbl
  have hb0 : Z.b.length ≤ s.b.length + 2 + d.length + 2 := hbl.1
  have hb1 := hbl.2
  have hlt := h.lt
  have hne1 : ¬ t = w.heap.size := by omega
  have hne2 : ¬ w.heap.size = t := by omega
  have hZh := Lib.hid hZ
  obtain ⟨hok0, v0, mb0, nn0, D0, hI0⟩ := h
  obtain ⟨ao0, cap0, rfl⟩ := hI0.row.isSlice
  obtain ⟨c0, c1, c2⟩ := two_w hI0.blk
  have hfit := hg.fit
  clear hok0 hI0 hbl hg hZ
  subst h6
  have hps : psB d = true := by simpa [fitB] using hfit
  obtain ⟨p1, p2, p3, p4⟩ := soa_parts hps
  clear hfit
  have hbody := Lib.hid (body_soa (r := ⟨nm, 6, tl, d⟩) (s.add (wd2 0)) rfl)
  have n1 := nameW_len (s.add (wd2 0)) p1
  have n2 := nameW_len (nameW (psV d).main (s.add (wd2 0))) p2
  rw [hsl] at n1
  have hPh : ∀ w, ∃ x y, Calls Try.prog 56 #[.int .i64 6, .string ⟨d.toArray⟩] w (Rets fun r w' => r = .tuple #[.string ⟨x⟩, .int .i64 y] ∧ Upd0 w w') := fun w => ⟨_, _, parseHost_w 6 d (by omega) w⟩
  have hPh := Lib.hid (fun w => parseHost_w 6 d (by omega) w)
  have p1h := Lib.hid p1
  have p2h := Lib.hid p2
  clear p1 p2
  have tk1 : True := trivial
  go_enter Try.func35, Try.ntmps35
  go_wp2_with (first
    | (go_at_call 31; (with_reducible refine (word_z t s 0 0 rfl _ (hh.out.to0 (by repeat first | with_reducible (first | exact Upd.refl _ _ | assumption | apply Upd.drew | apply Upd.alloc) | refine Upd0.tr ?_ (by with_reducible assumption) | refine Upd.setCell ?_ (fun h => absurd h (by first | exact Nat.lt_irrefl _ | (simp only []; omega))) _)) (by omega) (by omega)).use ?_); rintro v w1 ⟨rfl, hu1, hc1⟩; have k1 := Lib.hid hc1; clear hc1; have bq1 := Lib.hid (show w1.heap[w.heap.size]? = some (.cells #[.string ⟨nm.toArray⟩, .int .i64 6, .int .i64 tl, .string ⟨d.toArray⟩] 46 (0, 0)) from hu1.other (by first | exact alloc_last _ _ _ rfl | exact blk_alloc (alloc_last _ _ _ rfl) | exact blk_alloc (blk_alloc (alloc_last _ _ _ rfl))) rfl); obtain ⟨q10, q11, q12, q13⟩ := cell4w bq1.out; have hlq1 := blk_lt bq1.out; have neq1 : ¬ w.heap.size = w1.heap.size := (by omega); have nfq1 : ¬ w1.heap.size = w.heap.size := (by omega))
    | (go_at_call 56; (with_reducible refine (hPh.out _).use ?_); rintro v w2 ⟨rfl, hu2⟩; have k2 := Lib.hid (k1.out.to0 hu2); have bq2 := Lib.hid (show w2.heap[w.heap.size]? = some (.cells #[.string ⟨nm.toArray⟩, .int .i64 6, .int .i64 tl, .string ⟨d.toArray⟩] 46 (0, 0)) from hu2.block (fun h => h) (by first | exact bq1.out | exact blk_alloc bq1.out | exact blk_alloc (blk_alloc bq1.out) | exact blk_alloc (blk_alloc (blk_alloc bq1.out)))); obtain ⟨q20, q21, q22, q23⟩ := cell4w bq2.out; have hlq2 := blk_lt bq2.out; have neq2 : ¬ w.heap.size = w2.heap.size := (by omega); have nfq2 : ¬ w2.heap.size = w.heap.size := (by omega))
    | (go_at_call 57; (with_reducible refine (parseSoa_w d (by omega) _).use ?_); rintro v w3 ⟨rfl, hu3⟩; simp only [So.val]; have k3 := Lib.hid (k2.out.to0 hu3); have bq3 := Lib.hid (show w3.heap[w.heap.size]? = some (.cells #[.string ⟨nm.toArray⟩, .int .i64 6, .int .i64 tl, .string ⟨d.toArray⟩] 46 (0, 0)) from hu3.block (fun h => h) (by first | exact bq2.out | exact blk_alloc bq2.out | exact blk_alloc (blk_alloc bq2.out) | exact blk_alloc (blk_alloc (blk_alloc bq2.out)))); obtain ⟨q30, q31, q32, q33⟩ := cell4w bq3.out; have hlq3 := blk_lt bq3.out; have neq3 : ¬ w.heap.size = w3.heap.size := (by omega); have nfq3 : ¬ w3.heap.size = w.heap.size := (by omega))
    | (go_at_call 33; have _t := tk1; (with_reducible refine (name_w (psV d).main p1h.out t (s.add (wd2 0)) _ (k3.out.to0 (by repeat first | with_reducible (first | exact Upd.refl _ _ | assumption | apply Upd.drew | apply Upd.alloc) | refine Upd0.tr ?_ (by with_reducible assumption) | refine Upd.setCell ?_ (fun h => absurd h (by first | exact Nat.lt_irrefl _ | (simp only []; omega))) _)) (by simp [Wr.add, wd2]; omega)).use ?_); rintro v w4 ⟨rfl, hu4, hc4⟩; have k4 := Lib.hid hc4; clear hc4 tk1 _t; have bq4 := Lib.hid (show w4.heap[w.heap.size]? = some (.cells #[.string ⟨nm.toArray⟩, .int .i64 6, .int .i64 tl, .string ⟨d.toArray⟩] 46 (0, 0)) from hu4.other (by first | exact bq3.out | exact blk_alloc bq3.out | exact blk_alloc (blk_alloc bq3.out) | exact blk_alloc (blk_alloc (blk_alloc bq3.out))) rfl); obtain ⟨q40, q41, q42, q43⟩ := cell4w bq4.out; have hlq4 := blk_lt bq4.out; have neq4 : ¬ w.heap.size = w4.heap.size := (by omega); have nfq4 : ¬ w4.heap.size = w.heap.size := (by omega); have bp4 := Lib.hid (show w4.heap[w3.heap.size]? = some (.cells #[.string ⟨(psV d).main.toArray⟩, .string ⟨(psV d).mail.toArray⟩, .int .i64 (psV d).se, .int .i64 (psV d).re, .int .i64 (psV d).rt, .int .i64 (psV d).ex, .int .i64 (psV d).mi] 90 (0, 0)) from hu4.other (by first | exact alloc_last _ _ _ rfl | exact blk_alloc (alloc_last _ _ _ rfl) | exact blk_alloc (blk_alloc (alloc_last _ _ _ rfl))) rfl); obtain ⟨p40, p41, p42, p43, p44, p45, p46⟩ := cell7w bp4.out; have hlp4 := blk_lt bp4.out; have nep4 : ¬ w3.heap.size = w4.heap.size := (by omega); have nfp4 : ¬ w4.heap.size = w3.heap.size := (by omega))
    | (go_at_call 33; (with_reducible refine (name_w (psV d).mail p2h.out t (nameW (psV d).main (s.add (wd2 0))) _ k4.out (by omega)).use ?_); rintro v w5 ⟨rfl, hu5, hc5⟩; have k5 := Lib.hid hc5; clear hc5; have bq5 := Lib.hid (show w5.heap[w.heap.size]? = some (.cells #[.string ⟨nm.toArray⟩, .int .i64 6, .int .i64 tl, .string ⟨d.toArray⟩] 46 (0, 0)) from hu5.other (by first | exact bq4.out | exact blk_alloc bq4.out | exact blk_alloc (blk_alloc bq4.out) | exact blk_alloc (blk_alloc (blk_alloc bq4.out))) rfl); obtain ⟨q50, q51, q52, q53⟩ := cell4w bq5.out; have hlq5 := blk_lt bq5.out; have neq5 : ¬ w.heap.size = w5.heap.size := (by omega); have nfq5 : ¬ w5.heap.size = w.heap.size := (by omega); have bp5 := Lib.hid (show w5.heap[w3.heap.size]? = some (.cells #[.string ⟨(psV d).main.toArray⟩, .string ⟨(psV d).mail.toArray⟩, .int .i64 (psV d).se, .int .i64 (psV d).re, .int .i64 (psV d).rt, .int .i64 (psV d).ex, .int .i64 (psV d).mi] 90 (0, 0)) from hu5.other (by first | exact bp4.out | exact blk_alloc bp4.out | exact blk_alloc (blk_alloc bp4.out) | exact blk_alloc (blk_alloc (blk_alloc bp4.out))) rfl); obtain ⟨p50, p51, p52, p53, p54, p55, p56⟩ := cell7w bp5.out; have hlp5 := blk_lt bp5.out; have nep5 : ¬ w3.heap.size = w5.heap.size := (by omega); have nfp5 : ¬ w5.heap.size = w3.heap.size := (by omega))
    | (go_at_call 55; (with_reducible refine (text_w t (nameW (psV d).mail (nameW (psV d).main (s.add (wd2 0)))) (d.drop (d.length - 20)) _ k5.out (by omega) (by simp; omega)).use ?_); rintro v w6 ⟨rfl, hu6, hc6⟩; rw [← hbody.out, hZh.out] at hc6; have k6 := Lib.hid hc6; have k6l := Lib.hid (And.intro hb0 hb1); clear hc6; have bq6 := Lib.hid (show w6.heap[w.heap.size]? = some (.cells #[.string ⟨nm.toArray⟩, .int .i64 6, .int .i64 tl, .string ⟨d.toArray⟩] 46 (0, 0)) from hu6.other (by first | exact bq5.out | exact blk_alloc bq5.out | exact blk_alloc (blk_alloc bq5.out) | exact blk_alloc (blk_alloc (blk_alloc bq5.out))) rfl); obtain ⟨q60, q61, q62, q63⟩ := cell4w bq6.out; have hlq6 := blk_lt bq6.out; have neq6 : ¬ w.heap.size = w6.heap.size := (by omega); have nfq6 : ¬ w6.heap.size = w.heap.size := (by omega); obtain ⟨hokz, vz, mbz, nnz, Dz, hIz⟩ := k6.out; obtain ⟨aoz, capz, rfl⟩ := hIz.row.isSlice; have hlz := k6l.out; obtain ⟨gz, rfl, _⟩ := hIz.row.ptr (by omega); obtain ⟨z0, z1, z2⟩ := two_w hIz.blk; have f0 := hIz.row.frz (i := s.b.length) (by omega); have f1 := hIz.row.frz (i := s.b.length + 1) (by omega); have f2 := hIz.row.cell (i := s.b.length) (by omega); have f3 := hIz.row.cell (i := s.b.length + 1) (by omega); have hIzh := Lib.hid hIz; have hlz1 : (s.b.length : Int) < Z.b.length := (by omega); have hlz2 : (s.b.length : Int) + 1 < Z.b.length := (by omega); clear hIz hokz)
    | ((with_reducible refine S5.wp_serial3_0 105 [4, 9] [0, 1, 2, 4, 5, 6, 7, 9, 10, 11, 12, 13, 14, 15, 3, 8, 16, 17, 18, 19] [_, _, _, _, _, _, _, _, _, _, _, _, _, _, _, _, _, _, _, _] (by kernel_rfl) (by decide +kernel) rfl (by refine ⟨by first | decide | simp, fun s hs => ?_⟩; simp only [List.mem_cons, List.not_mem_nil, or_false] at hs; rcases hs with rfl | rfl <;> first | rfl | simp [go_sem, S5.isI, Act.eval]) (by repeat with_reducible (first | apply NoBad.then | apply NoBad.inBlock | apply NoBad.jump | exact NoBad.rets)) ?_))
    | (with_reducible refine wp_serial (by kernel_rfl) (by kernel_rfl) (by repeat with_reducible (first | apply NoBad.then | apply NoBad.inBlock | apply NoBad.jump | exact NoBad.rets)) ?_) | fail)
  all_goals go_returns
  have hokz := k6.out.1
  obtain ⟨p1, p2⟩ := hIzh.out.patch s.b.length (UInt8.ofNat ((Z.b.length - s.b.length - 2) / 256)) (UInt8.ofNat (Z.b.length - s.b.length - 2))
  have e1 : ((Z.b.length : Int) - s.b.length - 2) / 256 = ((UInt8.ofNat ((Z.b.length - s.b.length - 2) / 256)).toNat : Int) := by rw [UInt8.toNat_ofNat']; omega
  have e2 : ((Z.b.length : Int) - s.b.length - 2) % 256 = ((UInt8.ofNat (Z.b.length - s.b.length - 2)).toNat : Int) := by rw [UInt8.toNat_ofNat']; omega
  rw [e1, e2]
  refine ⟨rfl, (((((((((UpdW.of0 (show Upd0 w (w.alloc _) from (by repeat first | with_reducible (first | exact Upd.refl _ _ | assumption | apply Upd.drew | apply Upd.alloc) | refine Upd0.tr ?_ (by with_reducible assumption) | refine Upd.setCell ?_ (fun h => absurd h (by first | exact Nat.lt_irrefl _ | (simp only []; omega))) _))).tr hu1).tr (UpdW.of0 hu2)).tr (UpdW.of0 hu3)).tr (UpdW.of0 (show Upd0 w3 (w3.alloc _) from (by repeat first | with_reducible (first | exact Upd.refl _ _ | assumption | apply Upd.drew | apply Upd.alloc) | refine Upd0.tr ?_ (by with_reducible assumption) | refine Upd.setCell ?_ (fun h => absurd h (by first | exact Nat.lt_irrefl _ | (simp only []; omega))) _)))).tr hu4).tr hu5).tr hu6).tr p2).tr (UpdW.of0 (by repeat first | with_reducible (first | exact Upd.refl _ _ | assumption | apply Upd.drew | apply Upd.alloc) | refine Upd0.tr ?_ (by with_reducible assumption) | refine Upd.setCell ?_ (fun h => absurd h (by first | exact Nat.lt_irrefl _ | (simp only []; omega))) _)), ?_⟩
  rw [data_eq, hZh.out]
  exact WrM.to0 (w := (w6.setCell ⟨gz, s.b.length, none⟩ (.int .u8 (UInt8.ofNat ((Z.b.length - s.b.length - 2) / 256)).toNat)).setCell ⟨gz, s.b.length + 1, none⟩ (.int .u8 (UInt8.ofNat (Z.b.length - s.b.length - 2)).toNat)) ⟨hokz.same (set2_len _ _ _), _, _, _, _, p1⟩ (by repeat first | with_reducible (first | exact Upd.refl _ _ | assumption | apply Upd.drew | apply Upd.alloc) | refine Upd0.tr ?_ (by with_reducible assumption) | refine Upd.setCell ?_ (fun h => absurd h (by first | exact Nat.lt_irrefl _ | (simp only []; omega))) _)
theorem wdata_w (t : Nat) (s : Wr) (nm : Bs) (ty tl : Int) (d : Bs) (w : World) (h : WrM B w t s) (hl : s.b.length ≤ 30000000) (hg : Rc.Good ⟨nm, ty, tl, d⟩) :
    Calls Try.prog 35 #[.pointer (some ⟨t, 0, none⟩), .agg #[.string ⟨nm.toArray⟩, .int .i64 ty, .int .i64 tl, .string ⟨d.toArray⟩]] w (Rets fun r w' => r = .tuple #[] ∧ UpdW B w w' ∧ WrM B w' t (dataW ⟨nm, ty, tl, d⟩ s)) := by
  by_cases h6 : ty = 6
  · exact data_soa t s nm ty tl d w h hl hg h6
  · by_cases hp : phC ty d = 0 ∧ ty ≠ 33
    · exact data_host t s nm ty tl d w h hl hg h6 hp.1 hp.2
    · exact data_txt t s nm ty tl d w h hl hg h6 hp
end Go.Proofs.Ytgdejgfmhndbhaa
