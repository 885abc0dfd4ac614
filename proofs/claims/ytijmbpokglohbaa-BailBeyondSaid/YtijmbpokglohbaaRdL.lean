/-
  The document's ParseSoa: both names and the numbers are there; all.
-/
import Derived.Test.YtijmbpokglohbaaKf
import Derived.Deep.CutRange
namespace Go.Proofs.Ytijmbpokglohbaa
open Go.RowKit
set_option linter.unusedSimpArgs false
set_option linter.unusedVariables false
set_option maxRecDepth 100000 in
set_option maxHeartbeats 4000000 in
theorem rparseSoa_two (d : Bs) (hb1 : firB d = true) (hb2 : firB (firR d) = true) (h20 : (firR (firR d)).length = 20) (hd : d.length ≤ 70000) (w : World) : Calls Try.prog 99 #[.string ⟨d.toArray⟩] w (Rets fun r w' => r = .tuple #[(psV d).val, .int .i64 (psC d)] ∧ Upd0 w w') := by
    have tok1 : True := trivial
    obtain ⟨n, hn1, hn2, hi1, hR, hN1⟩ := fir_yes' hb1
    have hpsB : psB d = (psS d).ok := by rw [psB, hb1, hb2, h20]; rfl
    rw [hR] at hb2 h20
    obtain ⟨m, hm1, hm2, hj1, hS, hN2⟩ := fir_yes' hb2
    rw [hS] at h20
    have hpsS : psS d = ⟨d.take (n - 1), (d.drop n).take (m - 1), at4 ((d.drop n).drop m) 0, at4 ((d.drop n).drop m) 1, at4 ((d.drop n).drop m) 2, at4 ((d.drop n).drop m) 3, at4 ((d.drop n).drop m) 4⟩ := by rw [psS, hR, hS, hN1, hN2]
    have hdd : (d.drop n).drop m = d.drop (n + m) := by rw [List.drop_drop]
    rw [hdd] at hpsS h20
    simp only [List.length_drop] at hm2
    obtain ⟨R, hRR⟩ : ∃ R, d.drop (n + m) = R := ⟨_, rfl⟩
    have hlen : d.length = n + m + 20 := by simp only [List.length_drop] at h20; omega
    have hmail : (d.drop n).take (m - 1) = (d.take (n + m - 1)).drop n := by rw [List.drop_take]; congr 1; omega
    rw [hRR] at hpsS h20
    rw [hmail] at hpsS
    have hsw := rsoa_w (psS d) (by rw [hpsS]; show (d.take (n - 1)).length ≤ 70000; simp; omega) (by rw [hpsS]; show ((d.take (n + m - 1)).drop n).length ≤ 70000; simp; omega)
    have hv : (psS d).val = .agg #[.string ⟨(d.take (n - 1)).toArray⟩, .string ⟨((d.take (n + m - 1)).drop n).toArray⟩, .int .i64 (at4 R 0), .int .i64 (at4 R 1), .int .i64 (at4 R 2), .int .i64 (at4 R 3), .int .i64 (at4 R 4)] := by rw [hpsS]; rfl
    rw [hv] at hsw
    have hswh := Lib.hid hsw
    have hvh := Lib.hid hv
    have hi := Lib.hid hi1
    have hj := Lib.hid hj1
    have h20h := Lib.hid h20
    have hRh := Lib.hid hRR
    have hne : ((d.length : Int) != (n : Int) + (m : Int) + 20) = false := by rw [bne_eq_false_iff_eq]; omega
    have hm0 : ((m : Int) == 0) = false := by rw [beq_eq_false_iff_ne]; omega
    have hn0 : ((n : Int) == 0) = false := by rw [beq_eq_false_iff_ne]; omega
    have h20d : (d.drop (n + m)).length = 20 := by rw [hRR]; exact h20
    have hr20 : R.length ≤ 20 := by omega
    have hr21 : 20 ≤ R.length := by omega
    have hpsH := Lib.hid hpsB
    have hle1 : d.length ≤ n + m + 20 := by omega
    have hle2 : n + m + 20 ≤ d.length := by omega
    clear hlen hb1 hb2 hR hi1 hj1 hS hpsB hsw hv hpsS hdd h20 hmail hN1 hN2 hRR
    go_enter Try.func99, Try.ntmps99
    go_upto_region 8 with (first
      | (go_at_call 114; have _t := tok1; (with_reducible refine (rfirst_w d hd _).use ?_); rintro v w1 ⟨rfl, hu1⟩; rw [hi.out]; have z1 := Lib.hid (hu1.block (fun h => h) (alloc_last _ _ w.heap.size rfl)); clear tok1 _t)
      | (go_at_call 114; (with_reducible refine (rfirst_w (d.drop n) (by simp; omega) _).use ?_); rintro v w2 ⟨rfl, hu2⟩; rw [hj.out]; have z2 := Lib.hid (hu2.block (fun h => h) z1.out); have jz : w.heap.size < w2.heap.size := (by have q1 := hu1.size; have q2 := hu2.size; simp at q1; omega); have ja : ¬ w.heap.size = w2.heap.size := (by omega); have jb : ¬ w2.heap.size = w.heap.size := (by omega))
      | (with_reducible refine wp_serial (by kernel_rfl) (by kernel_rfl) (by repeat with_reducible (first | apply NoBad.then | apply NoBad.inBlock | apply NoBad.jump | exact NoBad.rets)) ?_)
      | fail)
    rw [hRh.out]
    go_cut [7] from 36 to 62 (fun s7 wx => ∃ b : Nat, s7 = .pointer (some ⟨b, 0, none⟩) ∧ Hid (Upd0 w2 wx ∧ w.heap.size < b ∧ b < wx.heap.size ∧ wx.heap[b]? = some (.cells #[.string ⟨(d.take (n - 1)).toArray⟩, .string ⟨((d.take (n + m - 1)).drop n).toArray⟩, .int .i64 (at4 R 0), .int .i64 (at4 R 1), .int .i64 (at4 R 2), .int .i64 (at4 R 3), .int .i64 (at4 R 4)] 133 (0, 0))))
    case first =>
      (with_reducible refine wp_serial4 60 [4, 5] 27 [13, 16, 19, 22, 25] [[0, 1, 2, 3, 4, 5, 6, 7, 8, 9, 10, 11, 12, 27, 13, 14, 15, 16, 17, 18, 19, 20, 21, 22, 23, 24, 25, 26, 28], [0, 1, 2, 3, 4, 5, 6, 7, 8, 9, 10, 11, 12, 13, 27, 14, 15, 16, 17, 18, 19, 20, 21, 22, 23, 24, 25, 26, 28], [0, 1, 2, 3, 4, 5, 6, 7, 8, 9, 10, 11, 12, 13, 14, 15, 16, 27, 17, 18, 19, 20, 21, 22, 23, 24, 25, 26, 28], [0, 1, 2, 3, 4, 5, 6, 7, 8, 9, 10, 11, 12, 13, 14, 15, 16, 17, 18, 19, 27, 20, 21, 22, 23, 24, 25, 26, 28], [0, 1, 2, 3, 4, 5, 6, 7, 8, 9, 10, 11, 12, 13, 14, 15, 16, 17, 18, 19, 20, 21, 22, 27, 23, 24, 25, 26, 28], [0, 1, 2, 3, 4, 5, 6, 7, 8, 9, 10, 11, 12, 13, 14, 15, 16, 17, 18, 19, 20, 21, 22, 23, 24, 25, 27, 26, 28]] [[_, _, _, _, _, _, _, _, _, _, _, _, _, _, _, _, _, _, _, _, _, _, _, _, _, _, _, _, _], [_, _, _, _, _, _, _, _, _, _, _, _, _, _, _, _, _, _, _, _, _, _, _, _, _, _, _, _, _], [_, _, _, _, _, _, _, _, _, _, _, _, _, _, _, _, _, _, _, _, _, _, _, _, _, _, _, _, _], [_, _, _, _, _, _, _, _, _, _, _, _, _, _, _, _, _, _, _, _, _, _, _, _, _, _, _, _, _], [_, _, _, _, _, _, _, _, _, _, _, _, _, _, _, _, _, _, _, _, _, _, _, _, _, _, _, _, _], [_, _, _, _, _, _, _, _, _, _, _, _, _, _, _, _, _, _, _, _, _, _, _, _, _, _, _, _, _]] (by kernel_rfl) (by decide +kernel) rfl (by refine ⟨by first | decide | simp, fun s hs => ?_⟩; simp only [List.mem_cons, List.not_mem_nil, or_false] at hs; rcases hs with rfl | rfl <;> first | rfl | simp [go_sem, isI, Act.eval]) (by repeat with_reducible (first | apply NoBad.then | apply NoBad.inBlock | apply NoBad.jump | exact NoBad.rets)) ?_); (refine (And.intro ?_ (And.intro ?_ (And.intro ?_ (And.intro ?_ (And.intro ?_ (And.intro ?_ trivial)))))))
      all_goals go_wp2_with (first
        | (go_at_call 115; (with_reducible refine (num_lit0 R h20h.out _).use ?_); rintro v x0 ⟨rfl, hu3_0⟩;  have hq0 : Upd0 w2 x0 := (by repeat first | with_reducible (first | exact Upd.refl _ _ | assumption | apply Upd.drew | apply Upd.alloc) | refine Upd0.tr ?_ (by with_reducible assumption) | refine Upd.setCell ?_ (fun h => absurd h (by first | exact Nat.lt_irrefl _ | (simp only []; omega))) _); have u0 := hq0.size; have s0 : w.heap.size < x0.heap.size := (by have := hq0.size; omega); have sa0 : ¬ w.heap.size = x0.heap.size := (by omega); have sb0 : ¬ x0.heap.size = w.heap.size := (by omega); (first | have y := Lib.hid (hu3_0.block (fun h => h) (alloc_last _ _ w2.heap.size rfl)) | have y := Lib.hid (hu3_0.block (fun h => h) y.out) | skip))
        | (go_at_call 115; (with_reducible refine (num_lit1 R h20h.out _).use ?_); rintro v x1 ⟨rfl, hu3_1⟩;  have hq1 : Upd0 w2 x1 := (by repeat first | with_reducible (first | exact Upd.refl _ _ | assumption | apply Upd.drew | apply Upd.alloc) | refine Upd0.tr ?_ (by with_reducible assumption) | refine Upd.setCell ?_ (fun h => absurd h (by first | exact Nat.lt_irrefl _ | (simp only []; omega))) _); have u1 := hq1.size; have s1 : w.heap.size < x1.heap.size := (by have := hq1.size; omega); have sa1 : ¬ w.heap.size = x1.heap.size := (by omega); have sb1 : ¬ x1.heap.size = w.heap.size := (by omega); (first | have y := Lib.hid (hu3_1.block (fun h => h) (alloc_last _ _ x0.heap.size rfl)) | have y := Lib.hid (hu3_1.block (fun h => h) y.out) | skip))
        | (go_at_call 115; (with_reducible refine (num_lit2 R h20h.out _).use ?_); rintro v x2 ⟨rfl, hu3_2⟩;  have hq2 : Upd0 w2 x2 := (by repeat first | with_reducible (first | exact Upd.refl _ _ | assumption | apply Upd.drew | apply Upd.alloc) | refine Upd0.tr ?_ (by with_reducible assumption) | refine Upd.setCell ?_ (fun h => absurd h (by first | exact Nat.lt_irrefl _ | (simp only []; omega))) _); have u2 := hq2.size; have s2 : w.heap.size < x2.heap.size := (by have := hq2.size; omega); have sa2 : ¬ w.heap.size = x2.heap.size := (by omega); have sb2 : ¬ x2.heap.size = w.heap.size := (by omega); (first | have y := Lib.hid (hu3_2.block (fun h => h) (alloc_last _ _ x1.heap.size rfl)) | have y := Lib.hid (hu3_2.block (fun h => h) y.out) | skip))
        | (go_at_call 115; (with_reducible refine (num_lit3 R h20h.out _).use ?_); rintro v x3 ⟨rfl, hu3_3⟩;  have hq3 : Upd0 w2 x3 := (by repeat first | with_reducible (first | exact Upd.refl _ _ | assumption | apply Upd.drew | apply Upd.alloc) | refine Upd0.tr ?_ (by with_reducible assumption) | refine Upd.setCell ?_ (fun h => absurd h (by first | exact Nat.lt_irrefl _ | (simp only []; omega))) _); have u3 := hq3.size; have s3 : w.heap.size < x3.heap.size := (by have := hq3.size; omega); have sa3 : ¬ w.heap.size = x3.heap.size := (by omega); have sb3 : ¬ x3.heap.size = w.heap.size := (by omega); (first | have y := Lib.hid (hu3_3.block (fun h => h) (alloc_last _ _ x2.heap.size rfl)) | have y := Lib.hid (hu3_3.block (fun h => h) y.out) | skip))
        | (go_at_call 115; (with_reducible refine (num_lit4 R h20h.out _).use ?_); rintro v x4 ⟨rfl, hu3_4⟩;  have hq4 : Upd0 w2 x4 := (by repeat first | with_reducible (first | exact Upd.refl _ _ | assumption | apply Upd.drew | apply Upd.alloc) | refine Upd0.tr ?_ (by with_reducible assumption) | refine Upd.setCell ?_ (fun h => absurd h (by first | exact Nat.lt_irrefl _ | (simp only []; omega))) _); have u4 := hq4.size; have s4 : w.heap.size < x4.heap.size := (by have := hq4.size; omega); have sa4 : ¬ w.heap.size = x4.heap.size := (by omega); have sb4 : ¬ x4.heap.size = w.heap.size := (by omega); (first | have y := Lib.hid (hu3_4.block (fun h => h) (alloc_last _ _ x3.heap.size rfl)) | have y := Lib.hid (hu3_4.block (fun h => h) y.out) | skip); (first | (have hy5 := seven y.out; obtain ⟨e0, e1, e2, e3, e4, e5, e6, e7⟩ := hy5) | skip))
        | fail)
      all_goals go_meet
      all_goals refine ⟨_, rfl, Lib.hid ⟨(by repeat first | with_reducible (first | exact Upd.refl _ _ | assumption | apply Upd.drew | apply Upd.alloc) | refine Upd0.tr ?_ (by with_reducible assumption) | refine Upd.setCell ?_ (fun h => absurd h (by first | exact Nat.lt_irrefl _ | (simp only []; omega))) _), ?_, ?_, ?_⟩⟩
      all_goals first
        | exact seven_set y.out _ _ _ _ _ _ _
        | exact alloc_last _ _ _ rfl
        | omega
        | (simp only [World.size_setCell, World.size_alloc]; have := blk_lt y.out; omega)
        | (simp only [World.size_setCell, World.size_alloc]; omega)
        | (simp; done)
        | (simp only [World.size_setCell]; exact blk_lt y.out)
        | trace_state
    case rest =>
    obtain ⟨b, rfl, hcut⟩ := hcut
    have z3a := Lib.hid (hcut.out.1.block (fun h => h) z2.out)
    have mb : ¬ w.heap.size = b := by have := hcut.out.2.1; omega
    have mb2 : ¬ b = w.heap.size := by have := hcut.out.2.1; omega
    obtain ⟨e0, e1, e2, e3, e4, e5, e6, e7⟩ := seven hcut.out.2.2.2
    cases hok : (psS d).ok
    all_goals
      have hV := Lib.hid (show psV d = _ by rw [psV, hpsH.out, hok])
      have hC := Lib.hid (show psC d = _ by rw [psC, hpsH.out, hok])
      have hcode := Lib.hid (show (psS d).code = _ by rw [So.code, hok])
      clear hok
      go_wp2_with (first
        | (go_at_call 116; (with_reducible refine (hswh.out _).use ?_); rintro v w3 ⟨rfl, hu3⟩; rw [hcode.out]; have b8 := Lib.hid (hu3.block (fun h => h) z3a.out); obtain ⟨b0, b1, b2, b3, b4, b5, b6, b7⟩ := seven b8.out; obtain ⟨c0, c1, c2, c3, c4, c5, c6, c7⟩ := seven (hu3.block (fun h => h) hcut.out.2.2.2))
        | (with_reducible refine wp_serial (by kernel_rfl) (by kernel_rfl) (by repeat with_reducible (first | apply NoBad.then | apply NoBad.inBlock | apply NoBad.jump | exact NoBad.rets)) ?_)
        | fail)
      have hup := hcut.out.1
    · have hz := seven_set b8.out (.string ⟨#[]⟩) (.string ⟨#[]⟩) (.int .i64 0) (.int .i64 0) (.int .i64 0) (.int .i64 0) (.int .i64 0)
      refine bodyPost_ret (v := .tuple #[.agg #[.string ⟨#[]⟩, .string ⟨#[]⟩, .int .i64 0, .int .i64 0, .int .i64 0, .int .i64 0, .int .i64 0], .int .i64 2]) (by exact res_so Try.results99 (by rfl) hz) rfl ?_
      exact ⟨by rw [hV.out, hC.out]; rfl, (by repeat first | with_reducible (first | exact Upd.refl _ _ | assumption | apply Upd.drew | apply Upd.alloc) | refine Upd0.tr ?_ (by with_reducible assumption) | refine Upd.setCell ?_ (fun h => absurd h (by first | exact Nat.lt_irrefl _ | (simp only []; omega))) _)⟩
    · have hz := seven_set b8.out (.string ⟨(d.take (n - 1)).toArray⟩) (.string ⟨((d.take (n + m - 1)).drop n).toArray⟩) (.int .i64 (at4 R 0)) (.int .i64 (at4 R 1)) (.int .i64 (at4 R 2)) (.int .i64 (at4 R 3)) (.int .i64 (at4 R 4))
      refine bodyPost_ret (v := .tuple #[.agg #[.string ⟨(d.take (n - 1)).toArray⟩, .string ⟨((d.take (n + m - 1)).drop n).toArray⟩, .int .i64 (at4 R 0), .int .i64 (at4 R 1), .int .i64 (at4 R 2), .int .i64 (at4 R 3), .int .i64 (at4 R 4)], .int .i64 0]) (by exact res_so Try.results99 (by rfl) hz) rfl ?_
      exact ⟨by rw [hV.out, hC.out]; simp only [if_true]; rw [hvh.out], (by repeat first | with_reducible (first | exact Upd.refl _ _ | assumption | apply Upd.drew | apply Upd.alloc) | refine Upd0.tr ?_ (by with_reducible assumption) | refine Upd.setCell ?_ (fun h => absurd h (by first | exact Nat.lt_irrefl _ | (simp only []; omega))) _)⟩
theorem rparseSoa_w (d : Bs) (hd : d.length ≤ 70000) (w : World) : Calls Try.prog 99 #[.string ⟨d.toArray⟩] w (Rets fun r w' => r = .tuple #[(psV d).val, .int .i64 (psC d)] ∧ Upd0 w w') := by
  by_cases hall : firB d = true ∧ firB (firR d) = true
  · by_cases h20 : (firR (firR d)).length = 20
    · exact rparseSoa_two d hall.1 hall.2 h20 hd w
    · exact rparseSoa_no2 d hall.1 hall.2 h20 hd w
  · exact rparseSoa_no d hall hd w
end Go.Proofs.Ytijmbpokglohbaa
