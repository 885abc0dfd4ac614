/-
  The document's writer: records.
-/
import Derived.Test.YtgdejgfmhndbhaaRfG
namespace Go.Proofs.Ytgdejgfmhndbhaa
open Go.RowKit Go.Maps
set_option linter.unusedSimpArgs false
set_option linter.unusedVariables false
variable {B : Nat}
theorem UpdF.cellR {w w' : World} (h : UpdF B w w') {g o : Nat} {v : Value} (hg : g < B) (hv : w.cell? ⟨g, o, none⟩ = some v) : w'.cell? ⟨g, o, none⟩ = some v := h.old hg hv
theorem RfM.lt {w : World} {t : Nat} {s : Wr} (h : RfM B w t s) : t < w.heap.size := by
  obtain ⟨v, pv, h2⟩ := h
  exact blk_lt h2.blk
set_option maxRecDepth 100000 in
set_option maxHeartbeats 8000000 in
theorem rrecords_w (ao : Option Addr) (cap : Nat) (xs : List Rc) (t : Nat) (s : Wr) (w0 w : World) (h0 : Upd0 w0 w) (hB : B = w0.heap.size) (hR : RsR w0 ao xs) (hok : xs.all Rc.ok = true) (hl : xs.length ≤ 200) (h : RfM B w t s) (hs : s.b.length ≤ 10000000) (hp : s.pl.length ≤ s.b.length) :
    Calls Try.prog 39 #[.pointer (some ⟨t, 0, none⟩), .slice ao xs.length cap] w (Rets fun r w' => r = .tuple #[] ∧ UpdF B w w' ∧ RfM B w' t (recsW xs s)) := by
  have hRh := Lib.hid hR
  have hokh := Lib.hid hok
  have hh := Lib.hid h
  have hBh := Lib.hid hB
  clear h hR hok hB
  go_enter Try.func39, Try.ntmps39
  go_wp2_with (first | (with_reducible refine wp_serial (by kernel_rfl) (by kernel_rfl) (by repeat with_reducible (first | apply NoBad.then | apply NoBad.inBlock | apply NoBad.jump | exact NoBad.rets)) ?_) | fail)
  go_loopw [4, 5, 6] (fun jj _ _ wr => ∃ i : Nat, i ≤ xs.length ∧ jj = .int .i64 i ∧ UpdF B w wr ∧ Hid (RfM B wr t (recsW (xs.take i) s))) (fun jj _ _ _ => xs.length - (intOf jj).toNat)
  case atStart => exact ⟨0, Nat.zero_le _, rfl, UpdF.refl _, Lib.hid hh.out⟩
  case round =>
    obtain ⟨i, hi, rfl, hu, hM⟩ := hrel
    by_cases hlt : i < xs.length
    · obtain ⟨y, hx⟩ : ∃ x, xs[i]? = some x := ⟨xs[i], List.getElem?_eq_getElem hlt⟩
      obtain ⟨g, o, rfl, hg, e0, e1, e2, e3⟩ := hRh.out.some hx
      have hgB : g < B := by rw [hBh.out]; exact hg
      have d00 := hu.cellR hgB (h0.cell (fun h => h) e0)
      have d10 := hu.cellR hgB (h0.cell (fun h => h) e1)
      have d20 := hu.cellR hgB (h0.cell (fun h => h) e2)
      have d30 := hu.cellR hgB (h0.cell (fun h => h) e3)
      have hwB := hM.out.hB
      have hlb : (recsW (xs.take i) s).b.length ≤ 12000000 := by
        have h1 := recs_le s (all_tk hokh.out i)
        simp only [List.length_take] at h1
        omega
      have hpl := recs_pl (s := s) (all_tk hokh.out i) hp
      have hyo := Rc.good (all_at hokh.out hx)
      have hsn := Lib.hid (recs_snoc hx s)
      obtain ⟨S, hS⟩ : ∃ S, recsW (xs.take i) s = S := ⟨_, rfl⟩
      rw [hS] at hlb hM hsn hpl
      obtain ⟨nm, ty, tl, d⟩ := y
      have hnb := nameW_len S hyo.nm
      have hn254 := (cut_lab hyo.nm).1
      have hld := hyo.len
      have hpl2 := nameW_pl hyo.nm hpl
      have hty := Lib.hid (show ty = (ty.toNat : Int) by have := hyo.ty.1; simp only [] at this; omega)
      have hty2 : ty.toNat ≤ 65535 := by have := hyo.ty.2; simp only [] at this; omega
      have htl := Lib.hid (show tl = (tl.toNat : Int) by have := hyo.tl.1; simp only [] at this; omega)
      have htl2 : tl.toNat ≤ 2147483647 := by have := hyo.tl.2; simp only [] at this; omega
      have hyoh := Lib.hid hyo
      simp only [] at d00 d10 d20 d30 hnb hn254 hld hpl2
      obtain ⟨T0, hT0⟩ : ∃ T0, (((nameW nm S).add (wd2 ty.toNat)).add (wd2 1)).add (w4 tl.toNat) = T0 := ⟨_, rfl⟩
      have hT0l : T0.b.length ≤ (nameW nm S).b.length + 8 := by rw [← hT0]; simp [Wr.add, wd2, w4]
      have hT0p : T0.pl.length ≤ T0.b.length := by rw [← hT0]; exact add_pl (add_pl (add_pl hpl2 _) _) _
      have hT0h := Lib.hid hT0
      obtain ⟨Z, hZ⟩ : ∃ Z, bodyW ⟨nm, ty, tl, d⟩ (T0.add (wd2 0)) = Z := ⟨_, rfl⟩
      have hZl := body_len hyo (T0.add (wd2 0))
      rw [hZ] at hZl
      have hsl : (T0.add (wd2 0)).b.length = T0.b.length + 2 := by simp [Wr.add, wd2]
      rw [hsl] at hZl
      obtain ⟨hZ1, hZ2⟩ := hZl
      simp only [] at hZ1
      have hZh := Lib.hid hZ
      clear hsl
      have hrw := Lib.hid (show recW ⟨nm, ty, tl, d⟩ S = ⟨set2 Z.b T0.b.length (Z.b.length - T0.b.length - 2), Z.pl⟩ by
        show dataW _ ((((nameW nm S).add (wd2 ty.toNat)).add (wd2 1)).add (w4 tl.toNat)) = _
        rw [hT0, data_eq, hZ])
      clear hx e0 e1 e2 e3 hS hyo hT0 hZ
      have tk1 : True := trivial
      go_wp2_with (first
        | (go_at_call 38; (with_reducible refine (rname_w nm hyoh.out.nm t S _ (hM.out.to0 (by repeat first | with_reducible (first | exact Upd.refl _ _ | assumption | apply Upd.drew | apply Upd.alloc) | refine Upd0.tr ?_ (by with_reducible assumption) | refine Upd.setCell ?_ (fun h => absurd h (by first | exact Nat.lt_irrefl _ | (simp only []; omega))) _)) (by omega) hpl).use ?_); rintro v w1 ⟨rfl, hu1, hc1⟩; have k1 := Lib.hid hc1; clear hc1; have d01 := hu1.cellR hgB d00; have d11 := hu1.cellR hgB d10; have d21 := hu1.cellR hgB d20; have d31 := hu1.cellR hgB d30; have y1 := k1.out.hB; have x1 := k1.out.lt)
        | (go_at_call 36; (with_reducible refine (rnumber_z t (nameW nm S) _ ty.toNat 2 2 hty.out rfl _ (k1.out.to0 (by repeat first | with_reducible (first | exact Upd.refl _ _ | assumption | apply Upd.drew | apply Upd.alloc) | refine Upd0.tr ?_ (by with_reducible assumption) | refine Upd.setCell ?_ (fun h => absurd h (by first | exact Nat.lt_irrefl _ | (simp only []; omega))) _)) (by omega) (by omega) (by omega)).use ?_); rintro v w2 ⟨rfl, hu2, hc2⟩; rw [wid2] at hc2; have k2 := Lib.hid hc2; clear hc2; have d02 := hu2.cellR hgB d01; have d12 := hu2.cellR hgB d11; have d22 := hu2.cellR hgB d21; have d32 := hu2.cellR hgB d31; have y2 := k2.out.hB; have x2 := k2.out.lt)
        | (go_at_call 36; (with_reducible refine (rnumber_z t ((nameW nm S).add (wd2 ty.toNat)) 1 1 2 2 rfl rfl _ (k2.out.to0 (by repeat first | with_reducible (first | exact Upd.refl _ _ | assumption | apply Upd.drew | apply Upd.alloc) | refine Upd0.tr ?_ (by with_reducible assumption) | refine Upd.setCell ?_ (fun h => absurd h (by first | exact Nat.lt_irrefl _ | (simp only []; omega))) _)) (by simp [Wr.add, wd2]; omega) (by omega) (by omega)).use ?_); rintro v w3 ⟨rfl, hu3, hc3⟩; rw [wid2] at hc3; have k3 := Lib.hid hc3; clear hc3; have d03 := hu3.cellR hgB d02; have d13 := hu3.cellR hgB d12; have d23 := hu3.cellR hgB d22; have d33 := hu3.cellR hgB d32; have y3 := k3.out.hB; have x3 := k3.out.lt)
        | (go_at_call 36; (with_reducible refine (rnumber_z t (((nameW nm S).add (wd2 ty.toNat)).add (wd2 1)) _ tl.toNat 4 4 htl.out rfl _ (k3.out.to0 (by repeat first | with_reducible (first | exact Upd.refl _ _ | assumption | apply Upd.drew | apply Upd.alloc) | refine Upd0.tr ?_ (by with_reducible assumption) | refine Upd.setCell ?_ (fun h => absurd h (by first | exact Nat.lt_irrefl _ | (simp only []; omega))) _)) (by simp [Wr.add, wd2]; omega) (by omega) (by omega)).use ?_); rintro v w4 ⟨rfl, hu4, hc4⟩; rw [wid4, hT0h.out] at hc4; have k4 := Lib.hid hc4; clear hc4; have d04 := hu4.cellR hgB d03; have d14 := hu4.cellR hgB d13; have d24 := hu4.cellR hgB d23; have d34 := hu4.cellR hgB d33; have y4 := k4.out.hB; have x4 := k4.out.lt; obtain ⟨v4, pv4, hI4⟩ := k4.out; obtain ⟨ao4, cap4, rfl⟩ := hI4.row.isSlice; obtain ⟨c40, c41, c42⟩ := two_w hI4.blk; clear hI4)
        | (go_at_call 36; have _t := tk1; (with_reducible refine (rnumber_z t T0 0 0 2 2 rfl rfl _ (k4.out.to0 (by repeat first | with_reducible (first | exact Upd.refl _ _ | assumption | apply Upd.drew | apply Upd.alloc) | refine Upd0.tr ?_ (by with_reducible assumption) | refine Upd.setCell ?_ (fun h => absurd h (by first | exact Nat.lt_irrefl _ | (simp only []; omega))) _)) (by omega) (by omega) (by omega)).use ?_); rintro v w5 ⟨rfl, hu5, hc5⟩; rw [wid2] at hc5; have k5 := Lib.hid hc5; clear hc5 tk1 _t; have d05 := hu5.cellR hgB d04; have d15 := hu5.cellR hgB d14; have d25 := hu5.cellR hgB d24; have d35 := hu5.cellR hgB d34; have y5 := k5.out.hB; have x5 := k5.out.lt)
        | (go_at_call 61; (with_reducible refine (rwdata_w t (T0.add (wd2 0)) nm ty tl d _ (k5.out.to0 (by repeat first | with_reducible (first | exact Upd.refl _ _ | assumption | apply Upd.drew | apply Upd.alloc) | refine Upd0.tr ?_ (by with_reducible assumption) | refine Upd.setCell ?_ (fun h => absurd h (by first | exact Nat.lt_irrefl _ | (simp only []; omega))) _)) (by simp [Wr.add, wd2]; omega) (add_pl hT0p _) hyoh.out).use ?_); rintro v w6 ⟨rfl, hu6, hc6⟩; rw [hZh.out] at hc6; have k6 := Lib.hid hc6; clear hc6; have x6 := k6.out.lt; obtain ⟨v6, pv6, hI6⟩ := k6.out; obtain ⟨ao6, cap6, rfl⟩ := hI6.row.isSlice; obtain ⟨g6, rfl, _⟩ := hI6.row.ptr (by omega); obtain ⟨c60, c61, c62⟩ := two_w hI6.blk; have f0 := hI6.row.frz (i := T0.b.length) (by omega); have f1 := hI6.row.frz (i := T0.b.length + 1) (by omega); have f2 := hI6.row.cell (i := T0.b.length) (by omega); have f3 := hI6.row.cell (i := T0.b.length + 1) (by omega); have g6t : ¬ g6 = t := fun e => hI6.ne.1 (by rw [e]; rfl); have tg6 : ¬ t = g6 := fun e => g6t e.symm; have hI6h := Lib.hid hI6; have hlz1 : (T0.b.length : Int) < Z.b.length := (by omega); have hlz2 : (T0.b.length : Int) + 1 < Z.b.length := (by omega); clear hI6)
        | (with_reducible refine wp_serial (by kernel_rfl) (by kernel_rfl) (by repeat with_reducible (first | apply NoBad.then | apply NoBad.inBlock | apply NoBad.jump | exact NoBad.rets)) ?_) | fail)
      obtain ⟨p1, p2⟩ := hI6h.out.set1 T0.b.length (UInt8.ofNat ((Z.b.length - T0.b.length - 2) / 256))
      obtain ⟨p3, p4⟩ := p1.set1 (T0.b.length + 1) (UInt8.ofNat (Z.b.length - T0.b.length - 2))
      have e1 : ((Z.b.length : Int) - T0.b.length - 2) / 256 = ((UInt8.ofNat ((Z.b.length - T0.b.length - 2) / 256)).toNat : Int) := by rw [UInt8.toNat_ofNat']; omega
      have e2 : ((Z.b.length : Int) - T0.b.length - 2) % 256 = ((UInt8.ofNat (Z.b.length - T0.b.length - 2)).toNat : Int) := by rw [UInt8.toNat_ofNat']; omega
      rw [e1, e2]
      go_roundw
      case rel => exact ⟨i + 1, by omega, by go_num, (((((hu.tr (UpdF.of0 (Upd.refl _ _))).tr hu1).tr hu2).tr hu3).tr hu4).tr ((hu5.tr hu6).tr (p2.tr p4)), Lib.hid (by rw [hsn.out, hrw.out]; exact ⟨_, _, p3⟩)⟩
      case measure => simp [intOf]; omega
    · obtain rfl : i = xs.length := by omega
      rw [List.take_length] at hM
      go_wp2_with (first | (with_reducible refine wp_serial (by kernel_rfl) (by kernel_rfl) (by repeat with_reducible (first | apply NoBad.then | apply NoBad.inBlock | apply NoBad.jump | exact NoBad.rets)) ?_) | fail)
      all_goals go_returns
      all_goals exact ⟨rfl, hu, hM.out⟩
end Go.Proofs.Ytgdejgfmhndbhaa
