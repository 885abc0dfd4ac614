/-
  ParseSoa, of both.
-/
import Derived.Test.YtijmbpokglohbaaKc
namespace Go.Proofs.Ytijmbpokglohbaa
open Go.RowKit
set_option linter.unusedSimpArgs false
set_option linter.unusedVariables false
theorem fz_lt : ∀ (n : Nat) (s : Bs), s.length ≤ n → ∀ i, fz s = some i → i < s.length := by
  intro n
  induction n with
  | zero => intro s h i hi; have : s = [] := List.eq_nil_of_length_eq_zero (by omega); subst this; cases hi
  | succ n ih =>
    intro s h i hi
    cases s with
    | nil => cases hi
    | cons k t =>
      rw [fz_cons] at hi
      split at hi
      · cases hi; simp
      · rename_i h0
        have := u8_ne h0
        cases hf : fz (t.drop k.toNat) with
        | none => rw [hf] at hi; cases hi
        | some j =>
          rw [hf] at hi; cases hi
          simp only [List.length_cons] at h
          have := ih (t.drop k.toNat) (by simp; omega) j hf
          simp at this ⊢; omega
theorem fir_yes {d : Bs} (h : firB d = true) : ∃ i, i < d.length ∧ firI d = i + 1 ∧ firR d = d.drop (i + 1) ∧ firN d = d.take i := by
  unfold firB at h
  cases hf : fz d with
  | none => rw [hf] at h; cases h
  | some i =>
    rw [hf] at h
    have hi := fz_lt d.length d (Nat.le_refl _) i hf
    refine ⟨i, hi, by simp only [firI, hf]; rw [if_pos h], by simp only [firR, hf], ?_⟩
    simp only [firN, hf, hostN]
    rw [if_pos h, List.dropLast_eq_take, List.take_take]
    congr 1; simp; omega
theorem fir_no {d : Bs} (h : firB d = false) : firI d = 0 := by
  unfold firB at h
  cases hf : fz d with
  | none => simp only [firI, hf]
  | some i => rw [hf] at h; simp only [firI, hf]; exact if_neg (by simp only at h; rw [h]; decide)
def soZ : So := ⟨[], [], 0, 0, 0, 0, 0⟩
def psS (d : Bs) : So := ⟨firN d, firN (firR d), at4 (firR (firR d)) 0, at4 (firR (firR d)) 1, at4 (firR (firR d)) 2, at4 (firR (firR d)) 3, at4 (firR (firR d)) 4⟩
def psB (d : Bs) : Bool := firB d && firB (firR d) && decide ((firR (firR d)).length = 20) && (psS d).ok
def psV (d : Bs) : So := if psB d then psS d else soZ
def psC (d : Bs) : Int := if psB d then 0 else 2
theorem fir_len (d : Bs) : (firR d).length ≤ d.length ∧ (firN d).length ≤ d.length := by
  constructor
  · unfold firR; split <;> simp
  · unfold firN
    split
    · simp
    · rename_i i _
      unfold hostN
      split <;> simp <;> omega
theorem seven {w : World} {b : Nat} {a0 a1 a2 a3 a4 a5 a6 : Value} {t : TypeId} (h : w.heap[b]? = some (.cells #[a0, a1, a2, a3, a4, a5, a6] t (0, 0))) : w.cell? ⟨b, 0, none⟩ = some a0 ∧ w.cell? ⟨b, 1, none⟩ = some a1 ∧ w.cell? ⟨b, 2, none⟩ = some a2 ∧ w.cell? ⟨b, 3, none⟩ = some a3 ∧ w.cell? ⟨b, 4, none⟩ = some a4 ∧ w.cell? ⟨b, 5, none⟩ = some a5 ∧ w.cell? ⟨b, 6, none⟩ = some a6 ∧ ∀ i, w.frozen? ⟨b, i, none⟩ = false :=
  ⟨by rw [blk_cell h]; rfl, by rw [blk_cell h]; rfl, by rw [blk_cell h]; rfl, by rw [blk_cell h]; rfl, by rw [blk_cell h]; rfl, by rw [blk_cell h]; rfl, by rw [blk_cell h]; rfl, fun i => blk_frz h i⟩
theorem seven_set {w : World} {b : Nat} {a0 a1 a2 a3 a4 a5 a6 : Value} {t : TypeId} (h : w.heap[b]? = some (.cells #[a0, a1, a2, a3, a4, a5, a6] t (0, 0))) (v0 v1 v2 v3 v4 v5 v6 : Value) :
    (((((((w.setCell ⟨b, 0, none⟩ v0).setCell ⟨b, 1, none⟩ v1).setCell ⟨b, 2, none⟩ v2).setCell ⟨b, 3, none⟩ v3).setCell ⟨b, 4, none⟩ v4).setCell ⟨b, 5, none⟩ v5).setCell ⟨b, 6, none⟩ v6).heap[b]? = some (.cells #[v0, v1, v2, v3, v4, v5, v6] t (0, 0)) := by
  simpa using blk_set (blk_set (blk_set (blk_set (blk_set (blk_set (blk_set h 0 v0) 1 v1) 2 v2) 3 v3) 4 v4) 5 v5) 6 v6
theorem res_so {fn : Func} {r : Tmp} {c : Tmp} (hfn : fn.results = #[.cell c 133, .tmp r]) {tmps : Array Value} {b : Nat} (ht : tmps.getD c undef = .pointer (some ⟨b, 0, none⟩)) {W : World} {a0 a1 a2 a3 a4 a5 a6 : Value} (h : W.heap[b]? = some (.cells #[a0, a1, a2, a3, a4, a5, a6] 133 (0, 0))) :
    (results fn tmps).run Try.prog W = .ok (.tuple #[.agg #[a0, a1, a2, a3, a4, a5, a6], tmps.getD r undef]) W := by
  obtain ⟨h0, h1, h2, h3, h4, h5, h6, h7⟩ := seven h
  have ht' : tmps[c]?.getD undef = .pointer (some ⟨b, 0, none⟩) := by rw [← Array.getD_eq_getD_getElem?]; exact ht
  simp [results, hfn, ht', go_sem, h0, h1, h2, h3, h4, h5, h6]
theorem one_cell {w : World} {b : Nat} {a0 : Value} {t : TypeId} (h : w.heap[b]? = some (.cells #[a0] t (0, 0))) : w.cell? ⟨b, 0, none⟩ = some a0 ∧ w.frozen? ⟨b, 0, none⟩ = false := ⟨by rw [blk_cell h]; rfl, blk_frz h 0⟩
set_option maxRecDepth 100000 in
set_option maxHeartbeats 4000000 in
theorem parseSoa_no (d : Bs) (hall : ¬ (firB d = true ∧ firB (firR d) = true ∧ (firR (firR d)).length = 20)) (hd : d.length ≤ 70000) (w : World) : Calls Try.prog 98 #[.string ⟨d.toArray⟩] w (Rets fun r w' => r = .tuple #[(psV d).val, .int .i64 (psC d)] ∧ Upd0 w w') := by
  have hl1 := fir_len d
  have hl2 := fir_len (firR d)
  have tok1 : True := trivial
  have hno : psB d = false := by
    unfold psB
    cases h1 : firB d <;> cases h2 : firB (firR d) <;> simp_all
  have hfin := Lib.hid (show psV d = soZ ∧ psC d = 2 by rw [psV, psC, hno]; exact ⟨rfl, rfl⟩)
  have hcs : firB d = false ∨ (firB d = true ∧ firB (firR d) = false) ∨ (firB d = true ∧ firB (firR d) = true ∧ ((((firR (firR d)).length : Int) != 20) = true)) := by
    cases h1 : firB d <;> cases h2 : firB (firR d) <;> simp_all
    omega
  clear hno hall
  rcases hcs with hb1 | ⟨hb1, hb2⟩ | ⟨hb1, hb2, h20⟩
  · have hb1h := Lib.hid hb1
    clear hb1
    go_enter Try.func98, Try.ntmps98
    go_wp2_with (first
      | (go_at_call 111; have _t := tok1; (with_reducible refine (first_w d hd _).use ?_); rintro v w1 ⟨rfl, hu1⟩; rw [hb1h.out]; have z1 := Lib.hid (hu1.block (fun h => h) (alloc_last _ _ w.heap.size rfl)); have kz : w.heap.size < w1.heap.size := (by have := hu1.size; simp at this; omega); have kn : ¬ w.heap.size = w1.heap.size := (by omega); have kn' : ¬ w1.heap.size = w.heap.size := (by omega); clear tok1 _t)
      | (go_at_call 111; (with_reducible refine (first_w (firR d) (by omega) _).use ?_); rintro v w2 ⟨rfl, hu2⟩; have z2 := Lib.hid (hu2.block (fun h => h) (blk_alloc z1.out)); obtain ⟨y0, y1⟩ := one_cell (hu2.block (fun h => h) (alloc_last _ _ w1.heap.size rfl)); obtain ⟨a0, a1, a2, a3, a4, a5, a6, a7⟩ := seven z2.out; have jz : w1.heap.size < w2.heap.size := (by have := hu2.size; simp at this; omega))
      | (with_reducible refine wp_serial (by kernel_rfl) (by kernel_rfl) (by repeat with_reducible (first | apply NoBad.then | apply NoBad.inBlock | apply NoBad.jump | exact NoBad.rets)) ?_)
      | fail)
    have hz := seven_set (w := w2.setCell ⟨w1.heap.size, 0, none⟩ (.string ⟨(firR (firR d)).toArray⟩)) ((Below.heap_setCell w2 ⟨w1.heap.size, 0, none⟩ _ _ kn).trans z2.out) (.string ⟨#[]⟩) (.string ⟨#[]⟩) (.int .i64 0) (.int .i64 0) (.int .i64 0) (.int .i64 0) (.int .i64 0)
    refine bodyPost_ret (v := .tuple #[.agg #[.string ⟨#[]⟩, .string ⟨#[]⟩, .int .i64 0, .int .i64 0, .int .i64 0, .int .i64 0, .int .i64 0], .int .i64 2]) (by exact res_so Try.results98 (by rfl) hz) rfl ?_
    exact ⟨by rw [hfin.out.1, hfin.out.2]; rfl, (by repeat first | with_reducible (first | exact Upd.refl _ _ | assumption | apply Upd.drew | apply Upd.alloc) | refine Upd0.tr ?_ (by with_reducible assumption) | refine Upd.setCell ?_ (fun h => absurd h (by first | exact Nat.lt_irrefl _ | (simp only []; omega))) _)⟩
  · have hb1h := Lib.hid hb1
    have hb2h := Lib.hid hb2
    clear hb1 hb2
    go_enter Try.func98, Try.ntmps98
    go_wp2_with (first
      | (go_at_call 111; have _t := tok1; (with_reducible refine (first_w d hd _).use ?_); rintro v w1 ⟨rfl, hu1⟩; rw [hb1h.out]; have z1 := Lib.hid (hu1.block (fun h => h) (alloc_last _ _ w.heap.size rfl)); have kz : w.heap.size < w1.heap.size := (by have := hu1.size; simp at this; omega); have kn : ¬ w.heap.size = w1.heap.size := (by omega); have kn' : ¬ w1.heap.size = w.heap.size := (by omega); clear tok1 _t)
      | (go_at_call 111; (with_reducible refine (first_w (firR d) (by omega) _).use ?_); rintro v w2 ⟨rfl, hu2⟩; rw [hb2h.out]; have z2 := Lib.hid (hu2.block (fun h => h) (blk_alloc z1.out)); obtain ⟨y0, y1⟩ := one_cell (hu2.block (fun h => h) (alloc_last _ _ w1.heap.size rfl)); obtain ⟨a0, a1, a2, a3, a4, a5, a6, a7⟩ := seven z2.out; have jz : w1.heap.size < w2.heap.size := (by have := hu2.size; simp at this; omega))
      | (with_reducible refine wp_serial (by kernel_rfl) (by kernel_rfl) (by repeat with_reducible (first | apply NoBad.then | apply NoBad.inBlock | apply NoBad.jump | exact NoBad.rets)) ?_)
      | fail)
    have hz := seven_set (w := w2.setCell ⟨w1.heap.size, 0, none⟩ (.string ⟨(firR (firR d)).toArray⟩)) ((Below.heap_setCell w2 ⟨w1.heap.size, 0, none⟩ _ _ kn).trans z2.out) (.string ⟨#[]⟩) (.string ⟨#[]⟩) (.int .i64 0) (.int .i64 0) (.int .i64 0) (.int .i64 0) (.int .i64 0)
    refine bodyPost_ret (v := .tuple #[.agg #[.string ⟨#[]⟩, .string ⟨#[]⟩, .int .i64 0, .int .i64 0, .int .i64 0, .int .i64 0, .int .i64 0], .int .i64 2]) (by exact res_so Try.results98 (by rfl) hz) rfl ?_
    exact ⟨by rw [hfin.out.1, hfin.out.2]; rfl, (by repeat first | with_reducible (first | exact Upd.refl _ _ | assumption | apply Upd.drew | apply Upd.alloc) | refine Upd0.tr ?_ (by with_reducible assumption) | refine Upd.setCell ?_ (fun h => absurd h (by first | exact Nat.lt_irrefl _ | (simp only []; omega))) _)⟩
  · have hb1h := Lib.hid hb1
    have hb2h := Lib.hid hb2
    clear hb1 hb2
    go_enter Try.func98, Try.ntmps98
    go_wp2_with (first
      | (go_at_call 111; have _t := tok1; (with_reducible refine (first_w d hd _).use ?_); rintro v w1 ⟨rfl, hu1⟩; rw [hb1h.out]; have z1 := Lib.hid (hu1.block (fun h => h) (alloc_last _ _ w.heap.size rfl)); have kz : w.heap.size < w1.heap.size := (by have := hu1.size; simp at this; omega); have kn : ¬ w.heap.size = w1.heap.size := (by omega); have kn' : ¬ w1.heap.size = w.heap.size := (by omega); clear tok1 _t)
      | (go_at_call 111; (with_reducible refine (first_w (firR d) (by omega) _).use ?_); rintro v w2 ⟨rfl, hu2⟩; rw [hb2h.out]; have z2 := Lib.hid (hu2.block (fun h => h) (blk_alloc z1.out)); obtain ⟨y0, y1⟩ := one_cell (hu2.block (fun h => h) (alloc_last _ _ w1.heap.size rfl)); obtain ⟨a0, a1, a2, a3, a4, a5, a6, a7⟩ := seven z2.out; have jz : w1.heap.size < w2.heap.size := (by have := hu2.size; simp at this; omega))
      | (with_reducible refine wp_serial (by kernel_rfl) (by kernel_rfl) (by repeat with_reducible (first | apply NoBad.then | apply NoBad.inBlock | apply NoBad.jump | exact NoBad.rets)) ?_)
      | fail)
    have hz := seven_set (w := w2.setCell ⟨w1.heap.size, 0, none⟩ (.string ⟨(firR (firR d)).toArray⟩)) ((Below.heap_setCell w2 ⟨w1.heap.size, 0, none⟩ _ _ kn).trans z2.out) (.string ⟨#[]⟩) (.string ⟨#[]⟩) (.int .i64 0) (.int .i64 0) (.int .i64 0) (.int .i64 0) (.int .i64 0)
    refine bodyPost_ret (v := .tuple #[.agg #[.string ⟨#[]⟩, .string ⟨#[]⟩, .int .i64 0, .int .i64 0, .int .i64 0, .int .i64 0, .int .i64 0], .int .i64 2]) (by exact res_so Try.results98 (by rfl) hz) rfl ?_
    exact ⟨by rw [hfin.out.1, hfin.out.2]; rfl, (by repeat first | with_reducible (first | exact Upd.refl _ _ | assumption | apply Upd.drew | apply Upd.alloc) | refine Upd0.tr ?_ (by with_reducible assumption) | refine Upd.setCell ?_ (fun h => absurd h (by first | exact Nat.lt_irrefl _ | (simp only []; omega))) _)⟩
set_option maxRecDepth 100000 in
set_option maxHeartbeats 4000000 in
theorem parseSoa_good (d : Bs) (hb1 : firB d = true) (hb2 : firB (firR d) = true) (h20 : (firR (firR d)).length = 20) (hok : (psS d).ok = true) (hd : d.length ≤ 70000) (w : World) : Calls Try.prog 98 #[.string ⟨d.toArray⟩] w (Rets fun r w' => r = .tuple #[(psV d).val, .int .i64 (psC d)] ∧ Upd0 w w') := by
  have hl1 := fir_len d
  have hl2 := fir_len (firR d)
  have tok1 : True := trivial
  obtain ⟨R, hR⟩ : ∃ R, firR (firR d) = R := ⟨_, rfl⟩
  rw [hR] at h20 hl2
  have hpsS : psS d = ⟨firN d, firN (firR d), at4 R 0, at4 R 1, at4 R 2, at4 R 3, at4 R 4⟩ := by rw [psS, hR]
  have hl3 := fir_len (firR d)
  have hsw := soa_w (psS d) (by rw [hpsS]; show (firN d).length ≤ 70000; omega) (by rw [hpsS]; show (firN (firR d)).length ≤ 70000; omega)
  have hpsB : psB d = (psS d).ok := by rw [psB, hb1, hb2, hR, h20]; rfl
  have hRh := Lib.hid hR
  have hb1h := Lib.hid hb1
  have hb2h := Lib.hid hb2
  have h20h := Lib.hid h20
  have h20a : ((R.length : Int) != 20) = false := by rw [h20]; rfl
  have hv : (psS d).val = .agg #[.string ⟨(firN d).toArray⟩, .string ⟨(firN (firR d)).toArray⟩, .int .i64 (at4 R 0), .int .i64 (at4 R 1), .int .i64 (at4 R 2), .int .i64 (at4 R 3), .int .i64 (at4 R 4)] := by rw [hpsS]; rfl
  have hr20 : R.length ≤ 20 := by omega
  have hr21 : 20 ≤ R.length := by omega
  rw [hv] at hsw
  have hswh := Lib.hid hsw
  have hvh := Lib.hid hv
  clear hR hb1 hb2 h20 hsw hv hpsS hl3
  have t0 : True := trivial
  have t1 : True := trivial
  have t2 : True := trivial
  have t3 : True := trivial
  have hV := Lib.hid (show psV d = _ by rw [psV, hpsB, hok])
  have hC := Lib.hid (show psC d = _ by rw [psC, hpsB, hok])
  have hcode := Lib.hid (show (psS d).code = _ by rw [So.code, hok])
  clear hok hpsB
  go_enter Try.func98, Try.ntmps98
  go_wp2_with (first
    | (go_at_call 111; have _t := tok1; (with_reducible refine (first_w d hd _).use ?_); rintro v w1 ⟨rfl, hu1⟩; rw [hb1h.out]; have z1 := Lib.hid (hu1.block (fun h => h) (alloc_last _ _ w.heap.size rfl)); have kz : w.heap.size < w1.heap.size := (by have := hu1.size; simp at this; omega); have kn : ¬ w.heap.size = w1.heap.size := (by omega); have kn' : ¬ w1.heap.size = w.heap.size := (by omega); clear tok1 _t)
    | (go_at_call 111; (with_reducible refine (first_w (firR d) (by omega) _).use ?_); rintro v w2 ⟨rfl, hu2⟩; rw [hb2h.out, hRh.out]; have z2 := Lib.hid (hu2.block (fun h => h) (blk_alloc z1.out)); obtain ⟨y0, y1⟩ := one_cell (hu2.block (fun h => h) (alloc_last _ _ w1.heap.size rfl)); have cR : (w2.setCell ⟨w1.heap.size, 0, none⟩ (.string ⟨R.toArray⟩)).cell? ⟨w1.heap.size, 0, none⟩ = some (.string ⟨R.toArray⟩) := World.cell?_setCell_same' _ _ _ (by rw [y0]; rfl); obtain ⟨a0, a1, a2, a3, a4, a5, a6, a7⟩ := seven z2.out; have jz : w1.heap.size < w2.heap.size := (by have := hu2.size; simp at this; omega))
    | (go_at_call 112; (with_reducible refine (at_lit 0 R h20h.out 0 rfl (by decide) w1.heap.size _ cR).use ?_); rintro v W ⟨rfl, rfl⟩)
    | (go_at_call 112; (with_reducible refine (at_lit 1 R h20h.out 1 rfl (by decide) w1.heap.size _ cR).use ?_); rintro v W ⟨rfl, rfl⟩)
    | (go_at_call 112; (with_reducible refine (at_lit 2 R h20h.out 2 rfl (by decide) w1.heap.size _ cR).use ?_); rintro v W ⟨rfl, rfl⟩)
    | (go_at_call 112; (with_reducible refine (at_lit 3 R h20h.out 3 rfl (by decide) w1.heap.size _ cR).use ?_); rintro v W ⟨rfl, rfl⟩)
    | (go_at_call 112; (with_reducible refine (at_lit 4 R h20h.out 4 rfl (by decide) w1.heap.size _ cR).use ?_); rintro v W ⟨rfl, rfl⟩)
    | (go_at_call 113; (with_reducible refine (hswh.out _).use ?_); rintro v w3 ⟨rfl, hu3⟩; rw [hcode.out]; have z3 := Lib.hid (hu3.block (fun h => h) (blk_alloc ((Below.heap_setCell _ _ _ _ kn).trans z2.out))); have b8 := z3; obtain ⟨b0, b1, b2, b3, b4, b5, b6, b7⟩ := seven z3.out; obtain ⟨c0, c1, c2, c3, c4, c5, c6, c7⟩ := seven (hu3.block (fun h => h) (alloc_last _ _ w2.heap.size (by simp))); have mn : ¬ w.heap.size = w2.heap.size := (by omega); have mn2 : ¬ w2.heap.size = w.heap.size := (by omega); clear a0 a1 a2 a3 a4 a5 a6 a7 y0 y1)
    | (with_reducible refine wp_serial (by kernel_rfl) (by kernel_rfl) (by repeat with_reducible (first | apply NoBad.then | apply NoBad.inBlock | apply NoBad.jump | exact NoBad.rets)) ?_)
    | fail)
  have hz := seven_set b8.out (.string ⟨(firN d).toArray⟩) (.string ⟨(firN (firR d)).toArray⟩) (.int .i64 (at4 R 0)) (.int .i64 (at4 R 1)) (.int .i64 (at4 R 2)) (.int .i64 (at4 R 3)) (.int .i64 (at4 R 4))
  refine bodyPost_ret (v := .tuple #[.agg #[.string ⟨(firN d).toArray⟩, .string ⟨(firN (firR d)).toArray⟩, .int .i64 (at4 R 0), .int .i64 (at4 R 1), .int .i64 (at4 R 2), .int .i64 (at4 R 3), .int .i64 (at4 R 4)], .int .i64 0]) (by exact res_so Try.results98 (by rfl) hz) rfl ?_
  exact ⟨by rw [hV.out, hC.out]; simp only [if_true]; rw [hvh.out], (by repeat first | with_reducible (first | exact Upd.refl _ _ | assumption | apply Upd.drew | apply Upd.alloc) | refine Upd0.tr ?_ (by with_reducible assumption) | refine Upd.setCell ?_ (fun h => absurd h (by first | exact Nat.lt_irrefl _ | (simp only []; omega))) _)⟩
set_option maxRecDepth 100000 in
set_option maxHeartbeats 4000000 in
theorem parseSoa_bad (d : Bs) (hb1 : firB d = true) (hb2 : firB (firR d) = true) (h20 : (firR (firR d)).length = 20) (hok : (psS d).ok = false) (hd : d.length ≤ 70000) (w : World) : Calls Try.prog 98 #[.string ⟨d.toArray⟩] w (Rets fun r w' => r = .tuple #[(psV d).val, .int .i64 (psC d)] ∧ Upd0 w w') := by
  have hl1 := fir_len d
  have hl2 := fir_len (firR d)
  have tok1 : True := trivial
  obtain ⟨R, hR⟩ : ∃ R, firR (firR d) = R := ⟨_, rfl⟩
  rw [hR] at h20 hl2
  have hpsS : psS d = ⟨firN d, firN (firR d), at4 R 0, at4 R 1, at4 R 2, at4 R 3, at4 R 4⟩ := by rw [psS, hR]
  have hl3 := fir_len (firR d)
  have hsw := soa_w (psS d) (by rw [hpsS]; show (firN d).length ≤ 70000; omega) (by rw [hpsS]; show (firN (firR d)).length ≤ 70000; omega)
  have hpsB : psB d = (psS d).ok := by rw [psB, hb1, hb2, hR, h20]; rfl
  have hRh := Lib.hid hR
  have hb1h := Lib.hid hb1
  have hb2h := Lib.hid hb2
  have h20h := Lib.hid h20
  have h20a : ((R.length : Int) != 20) = false := by rw [h20]; rfl
  have hv : (psS d).val = .agg #[.string ⟨(firN d).toArray⟩, .string ⟨(firN (firR d)).toArray⟩, .int .i64 (at4 R 0), .int .i64 (at4 R 1), .int .i64 (at4 R 2), .int .i64 (at4 R 3), .int .i64 (at4 R 4)] := by rw [hpsS]; rfl
  have hr20 : R.length ≤ 20 := by omega
  have hr21 : 20 ≤ R.length := by omega
  rw [hv] at hsw
  have hswh := Lib.hid hsw
  have hvh := Lib.hid hv
  clear hR hb1 hb2 h20 hsw hv hpsS hl3
  have t0 : True := trivial
  have t1 : True := trivial
  have t2 : True := trivial
  have t3 : True := trivial
  have hV := Lib.hid (show psV d = _ by rw [psV, hpsB, hok])
  have hC := Lib.hid (show psC d = _ by rw [psC, hpsB, hok])
  have hcode := Lib.hid (show (psS d).code = _ by rw [So.code, hok])
  clear hok hpsB
  go_enter Try.func98, Try.ntmps98
  go_wp2_with (first
    | (go_at_call 111; have _t := tok1; (with_reducible refine (first_w d hd _).use ?_); rintro v w1 ⟨rfl, hu1⟩; rw [hb1h.out]; have z1 := Lib.hid (hu1.block (fun h => h) (alloc_last _ _ w.heap.size rfl)); have kz : w.heap.size < w1.heap.size := (by have := hu1.size; simp at this; omega); have kn : ¬ w.heap.size = w1.heap.size := (by omega); have kn' : ¬ w1.heap.size = w.heap.size := (by omega); clear tok1 _t)
    | (go_at_call 111; (with_reducible refine (first_w (firR d) (by omega) _).use ?_); rintro v w2 ⟨rfl, hu2⟩; rw [hb2h.out, hRh.out]; have z2 := Lib.hid (hu2.block (fun h => h) (blk_alloc z1.out)); obtain ⟨y0, y1⟩ := one_cell (hu2.block (fun h => h) (alloc_last _ _ w1.heap.size rfl)); have cR : (w2.setCell ⟨w1.heap.size, 0, none⟩ (.string ⟨R.toArray⟩)).cell? ⟨w1.heap.size, 0, none⟩ = some (.string ⟨R.toArray⟩) := World.cell?_setCell_same' _ _ _ (by rw [y0]; rfl); obtain ⟨a0, a1, a2, a3, a4, a5, a6, a7⟩ := seven z2.out; have jz : w1.heap.size < w2.heap.size := (by have := hu2.size; simp at this; omega))
    | (go_at_call 112; (with_reducible refine (at_lit 0 R h20h.out 0 rfl (by decide) w1.heap.size _ cR).use ?_); rintro v W ⟨rfl, rfl⟩)
    | (go_at_call 112; (with_reducible refine (at_lit 1 R h20h.out 1 rfl (by decide) w1.heap.size _ cR).use ?_); rintro v W ⟨rfl, rfl⟩)
    | (go_at_call 112; (with_reducible refine (at_lit 2 R h20h.out 2 rfl (by decide) w1.heap.size _ cR).use ?_); rintro v W ⟨rfl, rfl⟩)
    | (go_at_call 112; (with_reducible refine (at_lit 3 R h20h.out 3 rfl (by decide) w1.heap.size _ cR).use ?_); rintro v W ⟨rfl, rfl⟩)
    | (go_at_call 112; (with_reducible refine (at_lit 4 R h20h.out 4 rfl (by decide) w1.heap.size _ cR).use ?_); rintro v W ⟨rfl, rfl⟩)
    | (go_at_call 113; (with_reducible refine (hswh.out _).use ?_); rintro v w3 ⟨rfl, hu3⟩; rw [hcode.out]; have z3 := Lib.hid (hu3.block (fun h => h) (blk_alloc ((Below.heap_setCell _ _ _ _ kn).trans z2.out))); have b8 := z3; obtain ⟨b0, b1, b2, b3, b4, b5, b6, b7⟩ := seven z3.out; obtain ⟨c0, c1, c2, c3, c4, c5, c6, c7⟩ := seven (hu3.block (fun h => h) (alloc_last _ _ w2.heap.size (by simp))); have mn : ¬ w.heap.size = w2.heap.size := (by omega); have mn2 : ¬ w2.heap.size = w.heap.size := (by omega); clear a0 a1 a2 a3 a4 a5 a6 a7 y0 y1)
    | (with_reducible refine wp_serial (by kernel_rfl) (by kernel_rfl) (by repeat with_reducible (first | apply NoBad.then | apply NoBad.inBlock | apply NoBad.jump | exact NoBad.rets)) ?_)
    | fail)
  have hz := seven_set b8.out (.string ⟨#[]⟩) (.string ⟨#[]⟩) (.int .i64 0) (.int .i64 0) (.int .i64 0) (.int .i64 0) (.int .i64 0)
  refine bodyPost_ret (v := .tuple #[.agg #[.string ⟨#[]⟩, .string ⟨#[]⟩, .int .i64 0, .int .i64 0, .int .i64 0, .int .i64 0, .int .i64 0], .int .i64 2]) (by exact res_so Try.results98 (by rfl) hz) rfl ?_
  exact ⟨by rw [hV.out, hC.out]; rfl, (by repeat first | with_reducible (first | exact Upd.refl _ _ | assumption | apply Upd.drew | apply Upd.alloc) | refine Upd0.tr ?_ (by with_reducible assumption) | refine Upd.setCell ?_ (fun h => absurd h (by first | exact Nat.lt_irrefl _ | (simp only []; omega))) _)⟩
theorem parseSoa_w (d : Bs) (hd : d.length ≤ 70000) (w : World) : Calls Try.prog 98 #[.string ⟨d.toArray⟩] w (Rets fun r w' => r = .tuple #[(psV d).val, .int .i64 (psC d)] ∧ Upd0 w w') := by
  by_cases hall : firB d = true ∧ firB (firR d) = true ∧ (firR (firR d)).length = 20
  · cases hok : (psS d).ok with
    | true => exact parseSoa_good d hall.1 hall.2.1 hall.2.2 hok hd w
    | false => exact parseSoa_bad d hall.1 hall.2.1 hall.2.2 hok hd w
  · exact parseSoa_no d hall hd w
end Go.Proofs.Ytijmbpokglohbaa
