/-
  The document's writer: a record's data.
-/
import Derived.Test.YtgdejgfmhndbhaaRfD
namespace Go.Proofs.Ytgdejgfmhndbhaa
open Go.RowKit Go.Maps
set_option linter.unusedSimpArgs false
set_option linter.unusedVariables false
variable {B : Nat}
set_option maxRecDepth 100000 in
set_option maxHeartbeats 4000000 in
theorem rdata_host (t : Nat) (s : Wr) (nm : Bs) (ty tl : Int) (d : Bs) (w : World) (h : RfM B w t s) (hl : s.b.length ≤ 30000000) (hp0 : s.pl.length ≤ s.b.length) (hg : Rc.Good ⟨nm, ty, tl, d⟩) (h6 : ¬ ty = 6) (hp : phC ty d = 0) (h33 : ¬ ty = 33) :
    Calls Try.prog 61 #[.pointer (some ⟨t, 0, none⟩), .agg #[.string ⟨nm.toArray⟩, .int .i64 ty, .int .i64 tl, .string ⟨d.toArray⟩]] w (Rets fun r w' => r = .tuple #[] ∧ UpdF B w w' ∧ RfM B w' t (bodyW ⟨nm, ty, tl, d⟩ s)) := by
  have hh := Lib.hid h
  have hld := hg.len
  simp only [] at hld
  have hlt := h.hB
  have hlt2 : t < w.heap.size := by obtain ⟨_, _, hI⟩ := h; exact blk_lt hI.blk
  have hne1 : ¬ t = w.heap.size := by omega
  have hne2 : ¬ w.heap.size = t := by omega
  obtain ⟨hp1, hp2⟩ := host_parts hp
  have hbody := Lib.hid (body_host (r := ⟨nm, ty, tl, d⟩) s h6 hp h33)
  have hpl : (phN ty d).length ≤ 254 := (cut_lab hp1).1
  have hPh := Lib.hid (show ∀ w, Calls Try.prog 77 #[.int .i64 ty, .string ⟨d.toArray⟩] w (Rets fun r w' => r = .tuple #[.string ⟨(phN ty d).toArray⟩, .int .i64 0] ∧ Upd0 w w') from fun w => hp ▸ rparseHost_w ty d (by omega) w)
  have hp1h := Lib.hid hp1
  clear hp hp1 h hg
  go_enter Try.func61, Try.ntmps61
  go_wp2_with (first
    | (go_at_call 77; (with_reducible refine (hPh.out _).use ?_); rintro v w1 ⟨rfl, hu1⟩; have k1 := Lib.hid (hh.out.to0 (show Upd0 w w1 from (by repeat first | with_reducible (first | exact Upd.refl _ _ | assumption | apply Upd.drew | apply Upd.alloc) | refine Upd0.tr ?_ (by with_reducible assumption) | refine Upd.setCell ?_ (fun h => absurd h (by first | exact Nat.lt_irrefl _ | (simp only []; omega))) _))); have bq1 := Lib.hid (show w1.heap[w.heap.size]? = some (.cells #[.string ⟨nm.toArray⟩, .int .i64 ty, .int .i64 tl, .string ⟨d.toArray⟩] 46 (0, 0)) from hu1.block (fun h => h) (by first | exact alloc_last _ _ _ rfl | exact blk_alloc (alloc_last _ _ _ rfl) | exact blk_alloc (blk_alloc (alloc_last _ _ _ rfl)))); obtain ⟨q10, q11, q12, q13⟩ := cell4w bq1.out; have hlq1 := blk_lt bq1.out; have neq1 : ¬ w.heap.size = w1.heap.size := (by omega); have nfq1 : ¬ w1.heap.size = w.heap.size := (by omega))
    | (go_at_call 40; (with_reducible refine (rtext_w t s (d.take (d.length - (phN ty d).length - 1)) _ k1.out (by omega) (by simp; omega)).use ?_); rintro v w2 ⟨rfl, hu2, hc2⟩; have k2 := Lib.hid hc2; clear hc2)
    | (go_at_call 38; (with_reducible refine (rname_w (phN ty d) hp1h.out t _ _ k2.out (by simp [Wr.add]; omega) (add_pl hp0 _)).use ?_); rintro v w3 ⟨rfl, hu3, hc3⟩; rw [← hbody.out] at hc3; have k3 := Lib.hid hc3; clear hc3)
    | (with_reducible refine wp_serial (by kernel_rfl) (by kernel_rfl) (by repeat with_reducible (first | apply NoBad.then | apply NoBad.inBlock | apply NoBad.jump | exact NoBad.rets)) ?_) | fail)
  all_goals go_returns
  all_goals exact ⟨rfl, ((UpdF.of0 (show Upd0 w w1 from (by repeat first | with_reducible (first | exact Upd.refl _ _ | assumption | apply Upd.drew | apply Upd.alloc) | refine Upd0.tr ?_ (by with_reducible assumption) | refine Upd.setCell ?_ (fun h => absurd h (by first | exact Nat.lt_irrefl _ | (simp only []; omega))) _))).tr hu2).tr hu3, k3.out⟩
set_option maxRecDepth 100000 in
set_option maxHeartbeats 4000000 in
theorem rdata_txt (t : Nat) (s : Wr) (nm : Bs) (ty tl : Int) (d : Bs) (w : World) (h : RfM B w t s) (hl : s.b.length ≤ 30000000) (hp0 : s.pl.length ≤ s.b.length) (hg : Rc.Good ⟨nm, ty, tl, d⟩) (h6 : ¬ ty = 6) (hp : ¬ (phC ty d = 0 ∧ ty ≠ 33)) :
    Calls Try.prog 61 #[.pointer (some ⟨t, 0, none⟩), .agg #[.string ⟨nm.toArray⟩, .int .i64 ty, .int .i64 tl, .string ⟨d.toArray⟩]] w (Rets fun r w' => r = .tuple #[] ∧ UpdF B w w' ∧ RfM B w' t (bodyW ⟨nm, ty, tl, d⟩ s)) := by
  have hh := Lib.hid h
  have hld := hg.len
  simp only [] at hld
  have hlt := h.hB
  have hlt2 : t < w.heap.size := by obtain ⟨_, _, hI⟩ := h; exact blk_lt hI.blk
  have hne1 : ¬ t = w.heap.size := by omega
  have hne2 : ¬ w.heap.size = t := by omega
  have hbody := Lib.hid (body_txt (r := ⟨nm, ty, tl, d⟩) s h6 hp)
  have hcase : ty = 33 ∨ (¬ ty = 33 ∧ ¬ phC ty d = 0) := by
    by_cases h3 : ty = 33
    · exact .inl h3
    · exact .inr ⟨h3, fun h0 => hp ⟨h0, h3⟩⟩
  clear hp
  have hPh := Lib.hid (show ∀ w, Calls Try.prog 77 #[.int .i64 ty, .string ⟨d.toArray⟩] w (Rets fun r w' => r = .tuple #[.string ⟨(phN ty d).toArray⟩, .int .i64 (phC ty d)] ∧ Upd0 w w') from fun w => rparseHost_w ty d (by omega) w)
  obtain ⟨C, hC⟩ : ∃ C, phC ty d = C := ⟨_, rfl⟩
  rw [hC] at hcase hPh
  clear hC h hg
  rcases hcase with rfl | ⟨h33, hc0⟩
  ·
    go_enter Try.func61, Try.ntmps61
    go_wp2_with (first
      | (go_at_call 77; (with_reducible refine (hPh.out _).use ?_); rintro v w1 ⟨rfl, hu1⟩; have k1 := Lib.hid (hh.out.to0 (show Upd0 w w1 from (by repeat first | with_reducible (first | exact Upd.refl _ _ | assumption | apply Upd.drew | apply Upd.alloc) | refine Upd0.tr ?_ (by with_reducible assumption) | refine Upd.setCell ?_ (fun h => absurd h (by first | exact Nat.lt_irrefl _ | (simp only []; omega))) _))); have bq1 := Lib.hid (show w1.heap[w.heap.size]? = some (.cells #[.string ⟨nm.toArray⟩, .int .i64 33, .int .i64 tl, .string ⟨d.toArray⟩] 46 (0, 0)) from hu1.block (fun h => h) (by first | exact alloc_last _ _ _ rfl | exact blk_alloc (alloc_last _ _ _ rfl) | exact blk_alloc (blk_alloc (alloc_last _ _ _ rfl)))); obtain ⟨q10, q11, q12, q13⟩ := cell4w bq1.out; have hlq1 := blk_lt bq1.out; have neq1 : ¬ w.heap.size = w1.heap.size := (by omega); have nfq1 : ¬ w1.heap.size = w.heap.size := (by omega))
      | (go_at_call 40; (with_reducible refine (rtext_w t s d _ k1.out (by omega) (by omega)).use ?_); rintro v w2 ⟨rfl, hu2, hc2⟩; rw [← hbody.out] at hc2; have k2 := Lib.hid hc2; clear hc2)
      | (with_reducible refine wp_serial (by kernel_rfl) (by kernel_rfl) (by repeat with_reducible (first | apply NoBad.then | apply NoBad.inBlock | apply NoBad.jump | exact NoBad.rets)) ?_) | fail)
    all_goals go_returns
    all_goals exact ⟨rfl, (UpdF.of0 (show Upd0 w w1 from (by repeat first | with_reducible (first | exact Upd.refl _ _ | assumption | apply Upd.drew | apply Upd.alloc) | refine Upd0.tr ?_ (by with_reducible assumption) | refine Upd.setCell ?_ (fun h => absurd h (by first | exact Nat.lt_irrefl _ | (simp only []; omega))) _))).tr hu2, k2.out⟩
  · have hc1 : (C == 0) = false := by simpa using hc0
    have hc2 : decide (C = 0) = false := decide_eq_false hc0
    go_enter Try.func61, Try.ntmps61
    go_wp2_with (first
      | (go_at_call 77; (with_reducible refine (hPh.out _).use ?_); rintro v w1 ⟨rfl, hu1⟩; have k1 := Lib.hid (hh.out.to0 (show Upd0 w w1 from (by repeat first | with_reducible (first | exact Upd.refl _ _ | assumption | apply Upd.drew | apply Upd.alloc) | refine Upd0.tr ?_ (by with_reducible assumption) | refine Upd.setCell ?_ (fun h => absurd h (by first | exact Nat.lt_irrefl _ | (simp only []; omega))) _))); have bq1 := Lib.hid (show w1.heap[w.heap.size]? = some (.cells #[.string ⟨nm.toArray⟩, .int .i64 ty, .int .i64 tl, .string ⟨d.toArray⟩] 46 (0, 0)) from hu1.block (fun h => h) (by first | exact alloc_last _ _ _ rfl | exact blk_alloc (alloc_last _ _ _ rfl) | exact blk_alloc (blk_alloc (alloc_last _ _ _ rfl)))); obtain ⟨q10, q11, q12, q13⟩ := cell4w bq1.out; have hlq1 := blk_lt bq1.out; have neq1 : ¬ w.heap.size = w1.heap.size := (by omega); have nfq1 : ¬ w1.heap.size = w.heap.size := (by omega))
      | (go_at_call 40; (with_reducible refine (rtext_w t s d _ k1.out (by omega) (by omega)).use ?_); rintro v w2 ⟨rfl, hu2, hc2⟩; rw [← hbody.out] at hc2; have k2 := Lib.hid hc2; clear hc2)
      | (with_reducible refine wp_serial (by kernel_rfl) (by kernel_rfl) (by repeat with_reducible (first | apply NoBad.then | apply NoBad.inBlock | apply NoBad.jump | exact NoBad.rets)) ?_) | fail)
    all_goals go_returns
    all_goals exact ⟨rfl, (UpdF.of0 (show Upd0 w w1 from (by repeat first | with_reducible (first | exact Upd.refl _ _ | assumption | apply Upd.drew | apply Upd.alloc) | refine Upd0.tr ?_ (by with_reducible assumption) | refine Upd.setCell ?_ (fun h => absurd h (by first | exact Nat.lt_irrefl _ | (simp only []; omega))) _))).tr hu2, k2.out⟩
set_option maxRecDepth 100000 in
set_option maxHeartbeats 4000000 in
theorem rdata_soa (t : Nat) (s : Wr) (nm : Bs) (ty tl : Int) (d : Bs) (w : World) (h : RfM B w t s) (hl : s.b.length ≤ 30000000) (hp0 : s.pl.length ≤ s.b.length) (hg : Rc.Good ⟨nm, ty, tl, d⟩) (h6 : ty = 6) :
    Calls Try.prog 61 #[.pointer (some ⟨t, 0, none⟩), .agg #[.string ⟨nm.toArray⟩, .int .i64 ty, .int .i64 tl, .string ⟨d.toArray⟩]] w (Rets fun r w' => r = .tuple #[] ∧ UpdF B w w' ∧ RfM B w' t (bodyW ⟨nm, ty, tl, d⟩ s)) := by
  have hh := Lib.hid h
  have hld := hg.len
  simp only [] at hld
  have hlt := h.hB
  have hlt2 : t < w.heap.size := by obtain ⟨_, _, hI⟩ := h; exact blk_lt hI.blk
  have hne1 : ¬ t = w.heap.size := by omega
  have hne2 : ¬ w.heap.size = t := by omega
  have hfit := hg.fit
  clear h hg
  subst h6
  have hps : psB d = true := by simpa [fitB] using hfit
  obtain ⟨p1, p2, p3, p4⟩ := soa_parts hps
  clear hfit
  have hbody := Lib.hid (body_soa (r := ⟨nm, 6, tl, d⟩) s rfl)
  have n1 := nameW_len s p1
  have n2 := nameW_len (nameW (psV d).main s) p2
  have hPh := Lib.hid (show ∀ w, Calls Try.prog 77 #[.int .i64 6, .string ⟨d.toArray⟩] w (Rets fun r w' => r = .tuple #[.string ⟨(phN 6 d).toArray⟩, .int .i64 (phC 6 d)] ∧ Upd0 w w') from fun w => rparseHost_w 6 d (by omega) w)
  have p1h := Lib.hid p1
  have p2h := Lib.hid p2
  have hp2' := nameW_pl p1 hp0
  clear p1 p2
  have tk1 : True := trivial
  go_enter Try.func61, Try.ntmps61
  go_wp2_with (first
    | (go_at_call 77; (with_reducible refine (hPh.out _).use ?_); rintro v w1 ⟨rfl, hu1⟩; have k1 := Lib.hid (hh.out.to0 (show Upd0 w w1 from (by repeat first | with_reducible (first | exact Upd.refl _ _ | assumption | apply Upd.drew | apply Upd.alloc) | refine Upd0.tr ?_ (by with_reducible assumption) | refine Upd.setCell ?_ (fun h => absurd h (by first | exact Nat.lt_irrefl _ | (simp only []; omega))) _))); have bq1 := Lib.hid (show w1.heap[w.heap.size]? = some (.cells #[.string ⟨nm.toArray⟩, .int .i64 6, .int .i64 tl, .string ⟨d.toArray⟩] 46 (0, 0)) from hu1.block (fun h => h) (by first | exact alloc_last _ _ _ rfl | exact blk_alloc (alloc_last _ _ _ rfl) | exact blk_alloc (blk_alloc (alloc_last _ _ _ rfl)))); obtain ⟨q10, q11, q12, q13⟩ := cell4w bq1.out; have hlq1 := blk_lt bq1.out; have neq1 : ¬ w.heap.size = w1.heap.size := (by omega); have nfq1 : ¬ w1.heap.size = w.heap.size := (by omega))
    | (go_at_call 78; (with_reducible refine (rparseSoa_w d (by omega) _).use ?_); rintro v w2 ⟨rfl, hu2⟩; simp only [So.val]; have k2 := Lib.hid (k1.out.to0 hu2); have bq2 := Lib.hid (show w2.heap[w.heap.size]? = some (.cells #[.string ⟨nm.toArray⟩, .int .i64 6, .int .i64 tl, .string ⟨d.toArray⟩] 46 (0, 0)) from hu2.block (fun h => h) (by first | exact bq1.out | exact blk_alloc bq1.out | exact blk_alloc (blk_alloc bq1.out) | exact blk_alloc (blk_alloc (blk_alloc bq1.out)))); obtain ⟨q20, q21, q22, q23⟩ := cell4w bq2.out; have hlq2 := blk_lt bq2.out; have neq2 : ¬ w.heap.size = w2.heap.size := (by omega); have nfq2 : ¬ w2.heap.size = w.heap.size := (by omega))
    | (go_at_call 38; have _t := tk1; (with_reducible refine (rname_w (psV d).main p1h.out t s _ (k2.out.to0 (by repeat first | with_reducible (first | exact Upd.refl _ _ | assumption | apply Upd.drew | apply Upd.alloc) | refine Upd0.tr ?_ (by with_reducible assumption) | refine Upd.setCell ?_ (fun h => absurd h (by first | exact Nat.lt_irrefl _ | (simp only []; omega))) _)) (by omega) hp0).use ?_); rintro v w3 ⟨rfl, hu3, hc3⟩; have k3 := Lib.hid hc3; clear hc3 tk1 _t; have bq3 := Lib.hid (show w3.heap[w.heap.size]? = some (.cells #[.string ⟨nm.toArray⟩, .int .i64 6, .int .i64 tl, .string ⟨d.toArray⟩] 46 (0, 0)) from hu3.other (by first | exact bq2.out | exact blk_alloc bq2.out | exact blk_alloc (blk_alloc bq2.out) | exact blk_alloc (blk_alloc (blk_alloc bq2.out))) rfl); obtain ⟨q30, q31, q32, q33⟩ := cell4w bq3.out; have hlq3 := blk_lt bq3.out; have neq3 : ¬ w.heap.size = w3.heap.size := (by omega); have nfq3 : ¬ w3.heap.size = w.heap.size := (by omega); have bp3 := Lib.hid (show w3.heap[w2.heap.size]? = some (.cells #[.string ⟨(psV d).main.toArray⟩, .string ⟨(psV d).mail.toArray⟩, .int .i64 (psV d).se, .int .i64 (psV d).re, .int .i64 (psV d).rt, .int .i64 (psV d).ex, .int .i64 (psV d).mi] 90 (0, 0)) from hu3.other (by first | exact alloc_last _ _ _ rfl | exact blk_alloc (alloc_last _ _ _ rfl) | exact blk_alloc (blk_alloc (alloc_last _ _ _ rfl))) rfl); obtain ⟨p30, p31, p32, p33, p34, p35, p36⟩ := cell7w bp3.out; have hlp3 := blk_lt bp3.out; have nep3 : ¬ w2.heap.size = w3.heap.size := (by omega); have nfp3 : ¬ w3.heap.size = w2.heap.size := (by omega))
    | (go_at_call 38; (with_reducible refine (rname_w (psV d).mail p2h.out t (nameW (psV d).main s) _ k3.out (by omega) hp2').use ?_); rintro v w4 ⟨rfl, hu4, hc4⟩; have k4 := Lib.hid hc4; clear hc4; have bq4 := Lib.hid (show w4.heap[w.heap.size]? = some (.cells #[.string ⟨nm.toArray⟩, .int .i64 6, .int .i64 tl, .string ⟨d.toArray⟩] 46 (0, 0)) from hu4.other (by first | exact bq3.out | exact blk_alloc bq3.out | exact blk_alloc (blk_alloc bq3.out) | exact blk_alloc (blk_alloc (blk_alloc bq3.out))) rfl); obtain ⟨q40, q41, q42, q43⟩ := cell4w bq4.out; have hlq4 := blk_lt bq4.out; have neq4 : ¬ w.heap.size = w4.heap.size := (by omega); have nfq4 : ¬ w4.heap.size = w.heap.size := (by omega); have bp4 := Lib.hid (show w4.heap[w2.heap.size]? = some (.cells #[.string ⟨(psV d).main.toArray⟩, .string ⟨(psV d).mail.toArray⟩, .int .i64 (psV d).se, .int .i64 (psV d).re, .int .i64 (psV d).rt, .int .i64 (psV d).ex, .int .i64 (psV d).mi] 90 (0, 0)) from hu4.other (by first | exact bp3.out | exact blk_alloc bp3.out | exact blk_alloc (blk_alloc bp3.out) | exact blk_alloc (blk_alloc (blk_alloc bp3.out))) rfl); obtain ⟨p40, p41, p42, p43, p44, p45, p46⟩ := cell7w bp4.out; have hlp4 := blk_lt bp4.out; have nep4 : ¬ w2.heap.size = w4.heap.size := (by omega); have nfp4 : ¬ w4.heap.size = w2.heap.size := (by omega))
    | (go_at_call 40; (with_reducible refine (rtext_w t (nameW (psV d).mail (nameW (psV d).main s)) (d.drop (d.length - 20)) _ k4.out (by omega) (by simp; omega)).use ?_); rintro v w5 ⟨rfl, hu5, hc5⟩; rw [← hbody.out] at hc5; have k5 := Lib.hid hc5; clear hc5)
    | (with_reducible refine wp_serial (by kernel_rfl) (by kernel_rfl) (by repeat with_reducible (first | apply NoBad.then | apply NoBad.inBlock | apply NoBad.jump | exact NoBad.rets)) ?_) | fail)
  all_goals go_returns
  all_goals exact ⟨rfl, (((((UpdF.of0 (show Upd0 w w1 from (by repeat first | with_reducible (first | exact Upd.refl _ _ | assumption | apply Upd.drew | apply Upd.alloc) | refine Upd0.tr ?_ (by with_reducible assumption) | refine Upd.setCell ?_ (fun h => absurd h (by first | exact Nat.lt_irrefl _ | (simp only []; omega))) _))).tr (UpdF.of0 hu2)).tr (UpdF.of0 (show Upd0 w2 (w2.alloc _) from (by repeat first | with_reducible (first | exact Upd.refl _ _ | assumption | apply Upd.drew | apply Upd.alloc) | refine Upd0.tr ?_ (by with_reducible assumption) | refine Upd.setCell ?_ (fun h => absurd h (by first | exact Nat.lt_irrefl _ | (simp only []; omega))) _)))).tr hu3).tr hu4).tr hu5, k5.out⟩
theorem rwdata_w (t : Nat) (s : Wr) (nm : Bs) (ty tl : Int) (d : Bs) (w : World) (h : RfM B w t s) (hl : s.b.length ≤ 30000000) (hp0 : s.pl.length ≤ s.b.length) (hg : Rc.Good ⟨nm, ty, tl, d⟩) :
    Calls Try.prog 61 #[.pointer (some ⟨t, 0, none⟩), .agg #[.string ⟨nm.toArray⟩, .int .i64 ty, .int .i64 tl, .string ⟨d.toArray⟩]] w (Rets fun r w' => r = .tuple #[] ∧ UpdF B w w' ∧ RfM B w' t (bodyW ⟨nm, ty, tl, d⟩ s)) := by
  by_cases h6 : ty = 6
  · exact rdata_soa t s nm ty tl d w h hl hp0 hg h6
  · by_cases hp : phC ty d = 0 ∧ ty ≠ 33
    · exact rdata_host t s nm ty tl d w h hl hp0 hg h6 hp.1 hp.2
    · exact rdata_txt t s nm ty tl d w h hl hp0 hg h6 hp
end Go.Proofs.Ytgdejgfmhndbhaa
