/-
  The document's writer: names.
-/
import Derived.Test.YtgdejgfmhndbhaaWrS
import Derived.Test.YtgdejgfmhndbhaaKe
namespace Go.Proofs.Ytgdejgfmhndbhaa
open Go.RowKit Go.Maps
set_option linter.unusedSimpArgs false
set_option linter.unusedVariables false
variable {B : Nat}
theorem info_plc : (Try.prog.info? 98).map (fun i => (i.zero, i.size, i.bytes)) = some (some (.agg #[.string .empty, .int .i64 0]), 2, 24) := by kernel_rfl
theorem own_other {w : World} {b b' : Nat} {e e' : TypeId} {s s' n n' : Nat} {v v' : Value} {xs xs' : List Value} (h : w.ownsRow b e s v n xs) (h' : w.ownsRow b' e' s' v' n' xs') {g : Nat} (hv : v.ownBlock = some g) (hne : e ≠ e') : v'.ownBlock ≠ some g := fun hv' => by
  obtain ⟨c, hc⟩ := own_ty h hv
  obtain ⟨c', hc'⟩ := own_ty h' hv'
  rw [hc] at hc'
  injection hc' with hc'
  injection hc' with _ h2
  exact hne h2
theorem plc_get {pl : List (Bs × Nat)} {k : Nat} {p : Bs × Nat} (h : pl[k]? = some p) {w : World} {g n cap : Nat} (hr : w.ownsRow B 98 2 (.slice (some ⟨g, 0, none⟩) n cap) n (plc pl)) : w.cell? ⟨g, k * 2, none⟩ = some (.string ⟨p.1.toArray⟩) ∧ w.cell? ⟨g, k * 2 + 1, none⟩ = some (.int .i64 (p.2 : Nat)) :=
  ⟨elem_cell plcC_len hr h 0 _ (by omega) rfl, elem_cell plcC_len hr h 1 _ (by omega) rfl⟩
theorem fnd_hit {pl : List (Bs × Nat)} {k : Nat} {p : Bs × Nat} {n : Bs} (hx : pl[k]? = some p) (hno : (pl.take k).all (fun p => !hitP n p) = true) (hh : hitP n p = true) : fnd pl n = some p.2 := by
  obtain ⟨hl, he⟩ := List.getElem?_eq_some_iff.1 hx
  have e : pl = pl.take k ++ p :: pl.drop (k + 1) := by rw [← he, ← List.drop_eq_getElem_cons hl, List.take_append_drop]
  have e1 : (pl.take k).find? (hitP n) = none := by
    rw [List.find?_eq_none]
    intro q hq
    have := List.all_eq_true.1 hno q hq
    simpa using this
  unfold fnd
  rw [e, List.find?_append, e1]
  simp [hh]
theorem fnd_miss {pl : List (Bs × Nat)} {n : Bs} (hno : pl.all (fun p => !hitP n p) = true) : fnd pl n = none := by
  unfold fnd
  have : pl.find? (hitP n) = none := by
    rw [List.find?_eq_none]
    intro q hq
    have := List.all_eq_true.1 hno q hq
    simpa using this
  rw [this]; rfl
theorem UpdF.rowS {w w' : World} (h : UpdF B w w') {b : Nat} {v : Value} {n : Nat} {xs : List Value} (hr : w.ownsRow b 9 1 v n xs) : w'.ownsRow b 9 1 v n xs :=
  ownsRow_upd hr h fun g hg hs => by
    obtain ⟨cur, hc⟩ := own_ty hr hg
    have := hs.2
    rw [hc] at this
    simp [kindF] at this
theorem sr_drop {w : World} {g o : Nat} {L : List Bs} (h : SR w (some ⟨g, o, none⟩) L) (i : Nat) : SR w (some ⟨g, o + i, none⟩) (L.drop i) := by
  rcases h with rfl | ⟨g', o', h1, h2, h3⟩
  · exact .inl (by simp)
  · injection h1 with h1
    injection h1 with h1 h4
    subst h1 h4
    refine .inr ⟨g, o + i, rfl, h2, fun j x hx => ?_⟩
    rw [List.getElem?_drop] at hx
    have := h3 (i + j) x hx
    rw [Nat.add_assoc]
    exact this
theorem jn_le {x : Bs} {L : List Bs} : x.length + (jn L).length + 1 = (jn (x :: L)).length := by simp [jn_cons] <;> omega
theorem lbl_mem {L : List Bs} (h : L.all lblOk = true) {i : Nat} : (L.drop i).all lblOk = true := List.all_eq_true.2 fun x hx => List.all_eq_true.1 h x (List.mem_of_mem_drop hx)
theorem jn_drop {L : List Bs} : ∀ i : Nat, (jn (L.drop i)).length ≤ (jn L).length := by
  induction L with
  | nil => intro i; simp
  | cons x L ih =>
    intro i
    cases i with
    | zero => exact Nat.le_refl _
    | succ i =>
      have := ih i
      have := jn_le (x := x) (L := L)
      simp only [List.drop_succ_cons]
      omega
theorem rnumber_z (t : Nat) (s : Wr) (z : Int) (n : Nat) (zk : Int) (k : Nat) (hz : z = (n : Nat)) (hk0 : zk = (k : Nat)) (w : World) (h : RfM B w t s) (hl : s.b.length ≤ 50000000) (hk : k ≤ 8) (hn : n < 9223372036854775808) :
    Calls Try.prog 36 #[.pointer (some ⟨t, 0, none⟩), .int .i64 z, .int .i64 zk] w (Rets fun r w' => r = .tuple #[] ∧ UpdF B w w' ∧ RfM B w' t (s.add (wid k n))) := hz ▸ hk0 ▸ rnumber_w t s n k w h hl hk hn
set_option maxRecDepth 100000 in
set_option maxHeartbeats 8000000 in
theorem rname_w (n : Bs) (hc : cutB n = true) (t : Nat) (s : Wr) (w : World) (h : RfM B w t s) (hl : s.b.length ≤ 40000000) (hp : s.pl.length ≤ s.b.length) :
    Calls Try.prog 38 #[.pointer (some ⟨t, 0, none⟩), .string ⟨n.toArray⟩] w (Rets fun r w' => r = .tuple #[] ∧ UpdF B w w' ∧ RfM B w' t (nameW n s)) := by
  obtain ⟨hn254, hlab⟩ := cut_lab hc
  obtain ⟨hjn, hlb⟩ := lab_jn n _ hlab
  have hh := Lib.hid h
  have hLb := Lib.hid (rlabels_w n (by omega))
  have hW : nameW n s = nameL (cutL n) s := rfl
  rw [hW]
  obtain ⟨L0, hL0⟩ : ∃ L0, cutL n = L0 := ⟨_, rfl⟩
  rw [hL0] at hjn hlb hLb ⊢
  have hjl : (jn L0).length ≤ 254 := by rw [hjn]; exact hn254
  have hll := lbls_len L0 hlb
  have hlbh := Lib.hid hlb
  clear h hW hlab hc hjn hL0 hlb
  go_enter Try.func38, Try.ntmps38
  go_wp2_with (first
    | (go_at_call 59; (with_reducible refine (hLb.out _).use ?_); rintro v w1 ⟨ao, cap, rfl, hr1, hu1⟩; have r1 := Lib.hid hr1; clear hr1)
    | (with_reducible refine wp_serial (by kernel_rfl) (by kernel_rfl) (by repeat with_reducible (first | apply NoBad.then | apply NoBad.inBlock | apply NoBad.jump | exact NoBad.rets)) ?_) | fail)
  go_loopw [5, 6, 7, 8] (fun jj _ _ _ wr => ∃ (i : Nat) (s' : Wr), i ≤ L0.length ∧ jj = .int .i64 i ∧ Hid (nameL (L0.drop i) s' = nameL L0 s) ∧ UpdF B w wr ∧ Hid (RfM B wr t s') ∧ Hid (wr.ownsRow w.heap.size 9 1 (.slice ao L0.length cap) L0.length (strs L0)) ∧ s'.b.length + (jn (L0.drop i)).length ≤ s.b.length + (jn L0).length ∧ s'.pl.length ≤ s'.b.length) (fun jj _ _ _ _ => L0.length - (intOf jj).toNat)
  case atStart => exact ⟨0, s, Nat.zero_le _, rfl, Lib.hid rfl, UpdF.of0 hu1, Lib.hid (hh.out.to0 hu1), r1, Nat.le_refl _, hp⟩
  case round =>
    obtain ⟨i, s', hi, rfl, hnL, hu, hM, hr, hlen, hpl⟩ := hrel
    by_cases hlt : i < L0.length
    · obtain ⟨x, hx⟩ : ∃ x, L0[i]? = some x := ⟨L0[i], List.getElem?_eq_getElem hlt⟩
      have hxl := (lblOk_iff.1 (all_at hlbh.out hx))
      obtain ⟨hx1, hx2⟩ := hxl
      have hdr : L0.drop i = x :: L0.drop (i + 1) := by
        obtain ⟨hl', he⟩ := List.getElem?_eq_some_iff.1 hx
        rw [← he, ← List.drop_eq_getElem_cons hl']
      have hjd := jn_drop (L := L0) i
      obtain ⟨g, rfl⟩ := ownsRow_some hr.out (by omega)
      have hsxh := Lib.hid (show (strs L0)[i]? = some (.string ⟨x.toArray⟩) by simp [strs, hx])
      have hcx := Lib.hid (ownsRow_cell hr.out rfl hsxh.out)
      have hsr : SR wr (some ⟨g, i, none⟩) (L0.drop i) := by
        have := sr_drop (own_sr hr.out rfl) i
        rwa [Nat.zero_add] at this
      have hlbd := lbl_mem hlbh.out (i := i)
      have hJB : jnB (L0.drop i) = true := by
        simp only [jnB, Bool.and_eq_true, decide_eq_true_eq]
        exact ⟨hlbd, by omega⟩
      have hJ : ∀ c, Calls Try.prog 60 #[.slice (some ⟨g, i, none⟩) (L0.length - i) c] wr (Rets fun r w' => r = .tuple #[.string ⟨(jn (L0.drop i)).toArray⟩, .int .i64 0] ∧ Upd0 wr w') := fun c => by
        have := rjoin_w (some ⟨g, i, none⟩) c (L0.drop i) wr hsr (by rw [List.length_drop]; omega)
        rw [jnS, jnC, hJB, List.length_drop] at this
        exact this
      have hJh := Lib.hid hJ
      have hnL2 := hnL.out
      rw [hdr] at hnL2 hlen
      have hjx := jn_le (x := x) (L := L0.drop (i + 1))
      have hdrh := Lib.hid hdr
      obtain ⟨J, hJd⟩ : ∃ J, jn (L0.drop i) = J := ⟨_, rfl⟩
      rw [hJd] at hJh
      have hJdh := Lib.hid (show jn (x :: L0.drop (i + 1)) = J by rw [← hdr]; exact hJd)
      obtain ⟨v, pv, hI⟩ := hM.out
      obtain ⟨av, cv, rfl⟩ := hI.row.isSlice
      obtain ⟨ap, cp, rfl⟩ := ownsRow_slice hI.pls
      obtain ⟨c0, c1, c2⟩ := two_w hI.blk
      have hIh := Lib.hid hI
      have htl := blk_lt hI.blk
      have hglt := ownsRow_lt hr.out (g := g) rfl
      have hcap : L0.length ≤ cap := by obtain ⟨cur0, _, hcap, _⟩ := ownsRow_blk hr.out; exact hcap
      have hcap2 : ¬ cap = i := by omega
      clear hx hdr hJ hsr hlbd hJB hI hJd
      go_wp2_with (first
        | (go_at_call 60; (with_reducible refine (hJh.out _).use ?_); rintro v w2 ⟨rfl, hu2⟩)
        | (with_reducible refine wp_serial (by kernel_rfl) (by kernel_rfl) (by repeat with_reducible (first | apply NoBad.then | apply NoBad.inBlock | apply NoBad.jump | exact NoBad.rets)) ?_) | fail)
      go_loopw [8] (fun kk wr2 => ∃ k : Nat, k ≤ s'.pl.length ∧ kk = .int .i64 k ∧ Upd0 w2 wr2 ∧ Hid ((s'.pl.take k).all (fun p => !hitP J p) = true)) (fun kk _ => s'.pl.length - (intOf kk).toNat)
      case atStart => exact ⟨0, Nat.zero_le _, rfl, Upd.refl _ _, Lib.hid rfl⟩
      case round =>
        obtain ⟨k, hk, rfl, huk, hno⟩ := hrel
        have huz := Upd0.tr hu2 huk
        have hI2 := Lib.hid (hIh.out.to0 huz)
        have hM3 := Lib.hid (hM.out.to0 huz)
        obtain ⟨c3, c4, c5⟩ := two_w hI2.out.blk
        have htl2 := blk_lt hI2.out.blk
        by_cases hlk : k < s'.pl.length
        · obtain ⟨p, hx⟩ : ∃ p, s'.pl[k]? = some p := ⟨s'.pl[k], List.getElem?_eq_getElem hlk⟩
          obtain ⟨gp, rfl⟩ := ownsRow_some hI2.out.pls (by omega)
          obtain ⟨e0, e1⟩ := plc_get hx hI2.out.pls
          have hxh := Lib.hid hx
          obtain ⟨pn, pa⟩ := p
          simp only [] at e0 e1
          clear hx
          by_cases hpn : pn = J
          · subst hpn
            by_cases hpa : pa < 16384
            · have hf := Lib.hid (fnd_hit hxh.out hno.out (by simp [hitP, hpa]))
              have hpa2 : (pa : Int) < 16384 := by omega
              have hnL3 := Lib.hid (show s'.add (wd2 (49152 + pa)) = nameL L0 s by
                have := hnL2
                rw [nameL, hJdh.out, hf.out] at this
                exact this)
              clear hnL2
              have hnum := Lib.hid (show (49152 : Int) + (pa : Int) = ((49152 + pa : Nat) : Int) by omega)
              go_wp2_with (first
                | (go_at_call 36; (with_reducible refine (rnumber_z t s' _ (49152 + pa) 2 2 hnum.out rfl _ hM3.out (by omega) (by omega) (by omega)).use ?_); rintro v w3 ⟨rfl, hu3, hc3⟩; rw [wid2] at hc3; have k3 := Lib.hid hc3; clear hc3)
                | (with_reducible refine wp_serial (by kernel_rfl) (by kernel_rfl) (by repeat with_reducible (first | apply NoBad.then | apply NoBad.inBlock | apply NoBad.jump | exact NoBad.rets)) ?_) | fail)
              all_goals go_returns
              all_goals exact ⟨rfl, (hu.tr (UpdF.of0 huz)).tr hu3, by rw [← hnL3.out]; exact k3.out⟩
            · have hf := Lib.hid (all_take (p := fun p => !hitP pn p) hno.out hxh.out (by simp [hitP, hpa]))
              have hpa2 : ¬ (pa : Int) < 16384 := by omega
              go_wp2_with (first | (with_reducible refine wp_serial (by kernel_rfl) (by kernel_rfl) (by repeat with_reducible (first | apply NoBad.then | apply NoBad.inBlock | apply NoBad.jump | exact NoBad.rets)) ?_) | fail)
              go_roundw
              case rel => exact ⟨k + 1, by omega, by go_num, huk, hf⟩
              case measure => simp [intOf]; omega
          · have hf := Lib.hid (all_take (p := fun p => !hitP J p) hno.out hxh.out (by simp [hitP, hpn]))
            have hpn2 : ¬ (⟨pn.toArray⟩ : ByteArray) = ⟨J.toArray⟩ := fun e => hpn (ba_inj.1 e)
            go_wp2_with (first | (with_reducible refine wp_serial (by kernel_rfl) (by kernel_rfl) (by repeat with_reducible (first | apply NoBad.then | apply NoBad.inBlock | apply NoBad.jump | exact NoBad.rets)) ?_) | fail)
            go_roundw
            case rel => exact ⟨k + 1, by omega, by go_num, huk, hf⟩
            case measure => simp [intOf]; omega
        · have hf := Lib.hid (fnd_miss (all_end hno.out (by omega)))
          have hnL3 := Lib.hid (show nameL (L0.drop (i + 1)) ⟨s'.b ++ (UInt8.ofNat x.length :: x), s'.pl ++ [(J, s'.b.length)]⟩ = nameL L0 s by
            have := hnL2
            rw [nameL, hJdh.out, hf.out] at this
            exact this)
          obtain ⟨i1, hi1, hy0, hy1, hy2⟩ := info_parts info_plc
          have hcx2 := Lib.hid (huz.cell (fun h => h) hcx.out)
          have hrz := Lib.hid (ownsRow_upd hr.out huz (fun _ _ h => h))
          have hsx := Lib.hid (show (strs L0)[i]? = some (.string ⟨x.toArray⟩) from by
            have := hcx.out
            exact hsxh.out)
          have htg : ¬ t = g := fun e => by
            obtain ⟨c, hc⟩ := own_ty hrz.out (g := g) rfl
            rw [← e, hI2.out.blk] at hc; cases hc
          have hgt : ¬ g = t := fun e => htg e.symm
          clear hnL2
          go_wp2_with (first
            | (at_builtin; refine wpList_app (w := wr) (by repeat first | exact Ext.refl _ | assumption | apply Ext.drew | apply Ext.alloc) rfl (.tmp 69) (.tmp 77) 66 rfl 98 i1 _ 2 24 Try.underlying66 hi1 hy0 hy1 hy2 rfl (by decide) _ _ _ (ownsRow_mono hI2.out.pls (fun _ _ => Nat.zero_le _)) rfl _ _ _ [.string ⟨J.toArray⟩, .int .i64 (s'.b.length : Nat)] rfl rfl (alloc_last _ _ _ (by simp)) rfl (by omega) (by omega) ?_; intro ao' cap' w3 hr3 hu3 hf3; obtain ⟨x0, x1, x2⟩ := two_w (hu3.block (fun e => (hI2.out.ne).2.1 e) (blk_alloc hI2.out.blk)); have hru := Lib.hid (show Upd (fun k => (Value.slice ap s'.pl.length cp).ownBlock = some k) wr w3 from Upd.trans ((show Upd0 wr _ from (by repeat first | with_reducible (first | exact Upd.refl _ _ | assumption | apply Upd.drew | apply Upd.alloc) | refine Upd0.tr ?_ (by with_reducible assumption) | refine Upd.setCell ?_ (fun h => absurd h (by first | exact Nat.lt_irrefl _ | (simp only []; omega))) _)).mono (fun _ _ h => h.elim)) hu3 (fun _ _ h => h)); have hrow3 := Lib.hid (show w3.ownsRow 0 98 2 (.slice ao' (s'.pl.length + 1) cap') (s'.pl ++ [(J, s'.b.length)]).length (plc (s'.pl ++ [(J, s'.b.length)])) by simpa [plc_app, plc, plcC] using hr3); have hcx3 := ownsRow_cell (ownsRow_upd hrz.out hru.out (fun q hq hs => own_other hrz.out hI2.out.pls hq (by decide) hs)) rfl hsx.out; obtain ⟨z1, z2⟩ := hI2.out.putP hru.out hrow3.out (Fresh.trans (Fresh.refl _ _) hf3 (by simp)); have z1m := Lib.hid (show RfM B _ t ⟨s'.b, s'.pl ++ [(J, s'.b.length)]⟩ from ⟨_, _, z1⟩); have z1h := Lib.hid z1; have z2h := Lib.hid z2; have r3 := Lib.hid (z2.rowS hrz.out); have hl3 := blk_lt z1.blk; have hg3 := ownsRow_lt (z2.rowS hrz.out) (g := g) rfl; clear hr3 hu3 hf3 z1 z2)
            | (go_at_call 36; (with_reducible refine (rnumber_z t ⟨s'.b, s'.pl ++ [(J, s'.b.length)]⟩ _ x.length 1 1 rfl rfl _ (z1m.out.to0 (by repeat first | with_reducible (first | exact Upd.refl _ _ | assumption | apply Upd.drew | apply Upd.alloc) | refine Upd0.tr ?_ (by with_reducible assumption) | refine Upd.setCell ?_ (fun h => absurd h (by first | exact Nat.lt_irrefl _ | (simp only []; omega))) _)) (by simp only []; omega) (by omega) (by omega)).use ?_); rintro v w4 ⟨rfl, hu4, hc4⟩; rw [wid1] at hc4; have k4 := Lib.hid hc4; have r4 := Lib.hid (hu4.rowS (ownsRow_upd r3.out (show Upd0 _ _ from (by repeat first | with_reducible (first | exact Upd.refl _ _ | assumption | apply Upd.drew | apply Upd.alloc) | refine Upd0.tr ?_ (by with_reducible assumption) | refine Upd.setCell ?_ (fun h => absurd h (by first | exact Nat.lt_irrefl _ | (simp only []; omega))) _)) (fun _ _ h => h))); have hcx4 := ownsRow_cell r4.out rfl hsx.out; clear hc4)
            | (go_at_call 40; (with_reducible refine (rtext_w t _ x _ k4.out (by simp [Wr.add]; omega) (by omega)).use ?_); rintro v w5 ⟨rfl, hu5, hc5⟩; have k5 := Lib.hid hc5; have r5 := Lib.hid (hu5.rowS r4.out); clear hc5)
            | (with_reducible refine wp_serial (by kernel_rfl) (by kernel_rfl) (by repeat with_reducible (first | apply NoBad.then | apply NoBad.inBlock | apply NoBad.jump | exact NoBad.rets)) ?_) | fail)
          go_roundw
          case rel => exact ⟨i + 1, ⟨s'.b ++ (UInt8.ofNat x.length :: x), s'.pl ++ [(J, s'.b.length)]⟩, by omega, by go_num, hnL3, ((hu.tr (UpdF.of0 huz)).tr z2h.out).tr ((UpdF.of0 (by repeat first | with_reducible (first | exact Upd.refl _ _ | assumption | apply Upd.drew | apply Upd.alloc) | refine Upd0.tr ?_ (by with_reducible assumption) | refine Upd.setCell ?_ (fun h => absurd h (by first | exact Nat.lt_irrefl _ | (simp only []; omega))) _)).tr (hu4.tr hu5)), Lib.hid (by have := k5.out; simpa [Wr.add] using this), r5, by simp; omega, by simp; omega⟩
          case measure => simp [intOf]; omega
    · obtain rfl : i = L0.length := by omega
      have hnL2 := hnL.out
      rw [List.drop_length, nameL] at hnL2
      have hnL3 := Lib.hid hnL2
      have hM3 := Lib.hid hM.out
      have htl := hM.out.hB
      clear hnL2
      go_wp2_with (first
        | (go_at_call 36; (with_reducible refine (rnumber_z t s' 0 0 1 1 rfl rfl _ (hM3.out.to0 (by repeat first | with_reducible (first | exact Upd.refl _ _ | assumption | apply Upd.drew | apply Upd.alloc) | refine Upd0.tr ?_ (by with_reducible assumption) | refine Upd.setCell ?_ (fun h => absurd h (by first | exact Nat.lt_irrefl _ | (simp only []; omega))) _)) (by omega) (by omega) (by omega)).use ?_); rintro v w4 ⟨rfl, hu4, hc4⟩; rw [wid1] at hc4; have k4 := Lib.hid hc4; clear hc4)
        | (with_reducible refine wp_serial (by kernel_rfl) (by kernel_rfl) (by repeat with_reducible (first | apply NoBad.then | apply NoBad.inBlock | apply NoBad.jump | exact NoBad.rets)) ?_) | fail)
      all_goals go_returns
      all_goals exact ⟨rfl, hu.tr ((UpdF.of0 (by repeat first | with_reducible (first | exact Upd.refl _ _ | assumption | apply Upd.drew | apply Upd.alloc) | refine Upd0.tr ?_ (by with_reducible assumption) | refine Upd.setCell ?_ (fun h => absurd h (by first | exact Nat.lt_irrefl _ | (simp only []; omega))) _)).tr hu4), by rw [← hnL3.out]; exact k4.out⟩
end Go.Proofs.Ytgdejgfmhndbhaa
