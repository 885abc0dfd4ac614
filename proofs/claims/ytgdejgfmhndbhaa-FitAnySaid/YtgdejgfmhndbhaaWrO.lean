/-
  The program's writer: names.
-/
import Derived.Test.YtgdejgfmhndbhaaWrN
import Derived.Maps.OwnOps
namespace Go.Proofs.Ytgdejgfmhndbhaa
open Go.RowKit Go.Maps
set_option linter.unusedSimpArgs false
set_option linter.unusedVariables false
variable {B : Nat}
def strLen : Value → Nat
  | .string s => s.size
  | _ => 0
theorem zeroI (w : World) : (zeroValue 3).run Try.prog w = .ok (.int .i64 0) w := by kernel_rfl
theorem wf_pos {a : Nat} (h : a ≤ 100000000) : (Lit.int .i64 (a : Int)).wf = true := by
  have h1 : IntKind.i64.min = -9223372036854775808 := by decide
  have h2 : IntKind.i64.max = 9223372036854775807 := by decide
  simp only [Lit.wf, h1, h2, Bool.and_eq_true, decide_eq_true_eq]
  omega
theorem keyS (s : Bs) (hs : s.length ≤ 70000) : keyOf Try.prog 39 (.string ⟨s.toArray⟩) = some (.string s) := by
  have := WideMaps.keyOf_string_mk (P := Try.prog) (k := 39) Try.underlying39 (s := ⟨s.toArray⟩) (by simp only [ByteArray.size, List.size_toArray, maxLen]; omega)
  simpa using this
theorem or_point {a : Nat} (h : a < 16384) : 49152 ||| a = 49152 + a := by
  have : 49152 ||| a = 2 ^ 14 * 3 + a := by rw [Nat.two_pow_add_eq_or_of_lt h]
  omega
theorem word_z (t : Nat) (s : Wr) (z : Int) (n : Nat) (hz : z = (n : Nat)) (w : World) (h : WrM B w t s) (hl : s.b.length ≤ 50000000) (hn : n < 4294967296) :
    Calls Try.prog 31 #[.pointer (some ⟨t, 0, none⟩), .int .i64 z] w (Rets fun r w' => r = .tuple #[] ∧ UpdW B w w' ∧ WrM B w' t (s.add (wd2 n))) := hz ▸ word_w t s n w h hl hn
set_option maxRecDepth 100000 in
set_option maxHeartbeats 4000000 in
theorem name_w (n : Bs) (hc : cutB n = true) (t : Nat) (s : Wr) (w : World) (h : WrM B w t s) (hl : s.b.length ≤ 40000000) :
    Calls Try.prog 33 #[.pointer (some ⟨t, 0, none⟩), .string ⟨n.toArray⟩] w (Rets fun r w' => r = .tuple #[] ∧ UpdW B w w' ∧ WrM B w' t (nameW n s)) := by
  obtain ⟨i0, hi, hz0, hz1, hz2⟩ := info_parts info_u8
  obtain ⟨hn254, hlab⟩ := cut_lab hc
  obtain ⟨hjn, hlb⟩ := lab_jn n _ hlab
  have hh := Lib.hid h
  have hW : nameW n s = nameL (cutL n) s := rfl
  rw [hW]
  obtain ⟨L0, hL0⟩ : ∃ L0, cutL n = L0 := ⟨_, rfl⟩
  rw [hL0] at hjn hlb ⊢
  have hnjh := Lib.hid hjn.symm
  clear h hW hlab hc hjn hL0
  go_enter Try.func33, Try.ntmps33
  go_wp2_with (first | (with_reducible refine wp_serial (by kernel_rfl) (by kernel_rfl) (by repeat with_reducible (first | apply NoBad.then | apply NoBad.inBlock | apply NoBad.jump | exact NoBad.rets)) ?_) | fail)
  go_loopw [1, 4, 5, 6] (fun nn _ _ _ wr => ∃ (L : List Bs) (s' : Wr), nn = .string ⟨(jn L).toArray⟩ ∧ Hid (L.all lblOk = true) ∧ Hid (nameL L s' = nameL L0 s) ∧ UpdW B w wr ∧ Hid (WrM B wr t s') ∧ s'.b.length + (jn L).length ≤ s.b.length + n.length ∧ (jn L).length ≤ n.length) (fun nn _ _ _ _ => strLen nn)
  case atStart => exact ⟨L0, s, by rw [← hnjh.out], Lib.hid hlb, Lib.hid rfl, UpdW.refl _, hh, by rw [← hnjh.out]; exact Nat.le_refl _, by rw [← hnjh.out]; exact Nat.le_refl _⟩
  case round =>
    obtain ⟨L, s', rfl, hLh, hnL, huw, hM, hlen, hjl⟩ := hrel
    have hB := hM.out.hB
    cases L with
    | nil =>
      rw [jn_nil] at hlen ⊢
      obtain ⟨hok, v, mb, nn, D, hI⟩ := hM.out
      obtain ⟨ao, cap, rfl⟩ := hI.row.isSlice
      obtain ⟨c0, c1, c2⟩ := two_w hI.blk
      have hIh := Lib.hid hI
      have hlt := blk_lt hI.blk
      have hne1 : ¬ t = wr.heap.size := by omega
      have hne2 : ¬ wr.heap.size = t := by omega
      clear hI
      go_wp2_with (first
        | (at_builtin; refine wpList_appB rfl (.tmp 55) (.tmp 56) 38 rfl 5 i0 Try.underlying38 hi hz0 hz1 hz2 [0] rfl (hIh.out.row.up (by repeat first | with_reducible (first | exact Upd.refl _ _ | assumption | apply Upd.drew | apply Upd.alloc) | refine Upd0.tr ?_ (by with_reducible assumption) | refine Upd.setCell ?_ (fun h => absurd h (by first | exact Nat.lt_irrefl _ | (simp only []; omega))) _)) (by simp only [World.size_alloc]; omega) wr.heap.size 1 1 _ rfl (alloc_last _ _ _ (by simp)) rfl rfl (by simp at hlen ⊢; omega) ?_; intro ao' cap' w1 hb1 hu1 hf1; obtain ⟨x0, x1, x2⟩ := two_w (hu1.block (fun e => (hIh.out.ne).1 e) (blk_alloc hIh.out.blk)); have hb1h := Lib.hid hb1; have hf1h := Lib.hid hf1; have hu1h := Lib.hid hu1; clear hb1 hf1 hu1)
        | (with_reducible refine wp_serial (by kernel_rfl) (by kernel_rfl) (by repeat with_reducible (first | apply NoBad.then | apply NoBad.inBlock | apply NoBad.jump | exact NoBad.rets)) ?_)
        | fail)
      all_goals go_returns
      have hu2 : Upd (fun k => (Value.slice ao s'.b.length cap).ownBlock = some k) wr w1 := Upd.trans ((Upd.refl (fun k => (Value.slice ao s'.b.length cap).ownBlock = some k) wr).alloc _) hu1h.out (fun _ _ h => h)
      obtain ⟨z1, z2⟩ := hIh.out.put hu2 hb1h.out (Fresh.trans (Fresh.refl _ _) hf1h.out (by simp))
      refine ⟨rfl, huw.tr z2, ?_⟩
      rw [← hnL.out, nameL]
      exact ⟨hok.add _, _, _, _, _, z1⟩
    | cons x L =>
      have hxL := hLh.out
      simp only [List.all_cons, Bool.and_eq_true] at hxL
      obtain ⟨hx0, hLa⟩ := hxL
      obtain ⟨hx1, hx2⟩ := lblOk_iff.1 hx0
      have hlo : (jn (x :: L)).length ≤ 70000 := by omega
      obtain ⟨hok, v, mb, nn, D, hI⟩ := hM.out
      obtain ⟨ao, cap, rfl⟩ := hI.row.isSlice
      obtain ⟨c0, c1, c2⟩ := two_w hI.blk
      have hIh := Lib.hid hI
      have hlt := blk_lt hI.blk
      have hsy := (hI.abs (jn (x :: L))).1
      have hay := (hI.abs (jn (x :: L))).2
      have hff := fnd_fst (n := jn (x :: L)) hok.up
      have hkey := keyS (jn (x :: L)) hlo
      have hnk : nn < maxLen := by
        have h1 := hIh.out.cnt
        have h2 := hok.cnt
        unfold maxLen; omega
      have hnL2 := hnL.out
      rw [nameL] at hnL2
      obtain ⟨c, hcd⟩ : ∃ c, UInt8.ofNat x.length = c := ⟨_, rfl⟩
      obtain ⟨r, hrd⟩ : ∃ r, x ++ jn L = r := ⟨_, rfl⟩
      have hJ : jn (x :: L) = c :: r := by rw [jn_cons, hcd, hrd]
      have hcn : c.toNat = x.length := by rw [← hcd, UInt8.toNat_ofNat']; omega
      have hrl : r.length = x.length + (jn L).length := by rw [← hrd]; simp
      have hd1 := Lib.hid (show List.take x.length r = x by rw [← hrd]; simp)
      have hd2 := Lib.hid (show List.drop x.length (List.take (x.length + (jn L).length) r) = jn L by rw [← hrd, List.take_of_length_le (by simp), List.drop_left])
      rw [hJ] at hsy hay hff hkey hlo hlen hjl hnL2 ⊢
      have hJh := Lib.hid hJ
      have hkeyh := Lib.hid hkey
      have hcb := c.toNat_lt
      simp only [List.length_cons] at hlo hlen hjl
      rw [hcd] at hnL2
      clear hI hJ hrd hcd hkey
      cases hf : fst' s'.pl (c :: r) with
      | some a =>
        have hale := fst'_le hok hf
        rw [hf] at hsy hay hff
        simp only [Option.isSome_some, Option.getD_some] at hsy hay hff
        by_cases ha : a < 16384
        · rw [if_pos ha] at hff
          rw [hff] at hnL2
          simp only [] at hnL2
          have hpt := Lib.hid (show bits .or .i64 (49152 : Int) (a : Int) = ((49152 + a : Nat) : Int) from by rw [← or_point ha]; exact bits_or_i64 49152 a (by omega) (by omega))
          have hal : (a : Int) < 16384 := by omega
          have hnL3 := Lib.hid hnL2
          have hayh := Lib.hid hay
          have hsyh := Lib.hid hsy
          clear hf hff hnL2 hay hsy
          go_wp2_with (first
            | (at_lookup; refine wpList_lookup_own_ok_int _ rfl (.tmp 13) (.tmp 14) 55 rfl 39 3 .i64 (string_keyed Try.underlying39) Try.underlying55 Try.underlying3 (zeroI _) mb nn D rfl hIh.out.map _ _ rfl hkeyh.out ?_; intro cc hat hwc; rw [hayh.out] at hat; (obtain rfl : (a : Int) = cc := by injection hat with hat; injection hat); rw [hsyh.out])
            | (go_at_call 31; (with_reducible refine (word_z t s' _ (49152 + a) hpt.out _ hM.out (by omega) (by omega)).use ?_); rintro v w2 ⟨rfl, hu2, hc2⟩; have k2 := Lib.hid hc2; clear hc2)
            | (with_reducible refine wp_serial (by kernel_rfl) (by kernel_rfl) (by repeat with_reducible (first | apply NoBad.then | apply NoBad.inBlock | apply NoBad.jump | exact NoBad.rets)) ?_)
            | fail)
          all_goals go_returns
          exact ⟨rfl, huw.tr hu2, by rw [← hnL3.out]; exact k2.out⟩
        · rw [if_neg ha] at hff
          rw [hff] at hnL2
          simp only [] at hnL2
          have hal : ¬ (a : Int) < 16384 := by omega
          have hnL3 := Lib.hid hnL2
          have hayh := Lib.hid hay
          have hsyh := Lib.hid hsy
          have hI2 := Lib.hid (hIh.out.dup (x := c :: r) hf)
          clear hf hff hnL2 hay hsy
          go_wp2_with (first
            | (at_lookup; refine wpList_lookup_own_ok_int _ rfl (.tmp 13) (.tmp 14) 55 rfl 39 3 .i64 (string_keyed Try.underlying39) Try.underlying55 Try.underlying3 (zeroI _) mb nn D rfl hIh.out.map _ _ rfl hkeyh.out ?_; intro cc hat hwc; rw [hayh.out] at hat; (obtain rfl : (a : Int) = cc := by injection hat with hat; injection hat); rw [hsyh.out])
            | (go_at_call 55; (with_reducible refine (text_i t ⟨s'.b, s'.pl ++ [(c :: r, s'.b.length)]⟩ _ mb nn D _ _ (hI2.out.to0 (by repeat first | with_reducible (first | exact Upd.refl _ _ | assumption | apply Upd.drew | apply Upd.alloc) | refine Upd0.tr ?_ (by with_reducible assumption) | refine Upd.setCell ?_ (fun h => absurd h (by first | exact Nat.lt_irrefl _ | (simp only []; omega))) _)) (by simp only []; omega) (by simp; omega)).use ?_); rintro v w2 ⟨rfl, hu2, v2, hI3⟩; have k2 := Lib.hid hI3; clear hI3)
            | (with_reducible refine wp_serial (by kernel_rfl) (by kernel_rfl) (by repeat with_reducible (first | apply NoBad.then | apply NoBad.inBlock | apply NoBad.jump | exact NoBad.rets)) ?_)
            | fail)
          go_roundw
          case rel =>
            have hk2 := k2.out
            simp only [Wr.add, List.take_succ_cons, hd1.out] at hk2
            exact ⟨L, ⟨s'.b ++ (c :: x), s'.pl ++ [(c :: r, s'.b.length)]⟩, by simp [hd2.out], Lib.hid hLa, Lib.hid hnL3.out, huw.tr hu2, Lib.hid ⟨dup_ok hok _ (by simp), v2, mb, nn, D, hk2⟩, by simp; omega, by omega⟩
          case measure => simp [strLen, ByteArray.size, hd2.out]; omega
      | none =>
        rw [hf] at hsy hay hff
        simp only [Option.isSome_none, Option.getD_none] at hsy hay hff
        rw [hff] at hnL2
        simp only [] at hnL2
        have hnL3 := Lib.hid hnL2
        have hayh := Lib.hid hay
        have hsyh := Lib.hid hsy
        have hfh := Lib.hid hf
        clear hf hff hnL2 hay hsy
        go_wp2_with (first
          | (at_lookup; refine wpList_lookup_own_ok_int _ rfl (.tmp 13) (.tmp 14) 55 rfl 39 3 .i64 (string_keyed Try.underlying39) Try.underlying55 Try.underlying3 (zeroI _) mb nn D rfl hIh.out.map _ _ rfl hkeyh.out ?_; intro cc hat hwc; rw [hayh.out] at hat; (obtain rfl : ((0 : Nat) : Int) = cc := by injection hat with hat; injection hat); rw [hsyh.out])
          | (at_mapUpdate; refine wpList_mapUpdate_in _ rfl (.tmp 32) (.tmp 33) (.tmp 38) 55 rfl 39 3 (string_keyed Try.underlying39) Try.underlying55 (plainElem Try.prog 3) mb nn D rfl hIh.out.map hnk _ (.int .i64 (s'.b.length : Nat)) _ rfl rfl hkeyh.out (.lit (.int .i64 (s'.b.length : Nat))) [] (plainElem_int Try.underlying3 (wf_pos (by omega))) ?_; intro w1 hown1 hturn1; obtain ⟨i1, i2⟩ := (hIh.out.to0 (show Upd0 wr wr.drew from (by repeat first | with_reducible (first | exact Upd.refl _ _ | assumption | apply Upd.drew | apply Upd.alloc) | refine Upd0.tr ?_ (by with_reducible assumption) | refine Upd.setCell ?_ (fun h => absurd h (by first | exact Nat.lt_irrefl _ | (simp only []; omega))) _))).ins hfh.out hown1 hturn1; have hI2 := Lib.hid i1; have hu1 := Lib.hid ((UpdW.of0 (show Upd0 wr wr.drew from (by repeat first | with_reducible (first | exact Upd.refl _ _ | assumption | apply Upd.drew | apply Upd.alloc) | refine Upd0.tr ?_ (by with_reducible assumption) | refine Upd.setCell ?_ (fun h => absurd h (by first | exact Nat.lt_irrefl _ | (simp only []; omega))) _))).tr i2); clear i1 i2 hown1 hturn1)
          | (go_at_call 55; (with_reducible refine (text_i t ⟨s'.b, s'.pl ++ [(c :: r, s'.b.length)]⟩ _ mb (nn + 1) _ _ _ (hI2.out.to0 (by repeat first | with_reducible (first | exact Upd.refl _ _ | assumption | apply Upd.drew | apply Upd.alloc) | refine Upd0.tr ?_ (by with_reducible assumption) | refine Upd.setCell ?_ (fun h => absurd h (by first | exact Nat.lt_irrefl _ | (simp only []; omega))) _)) (by simp only []; omega) (by simp; omega)).use ?_); rintro v w2 ⟨rfl, hu2, v2, hI3⟩; have k2 := Lib.hid hI3; clear hI3)
          | (with_reducible refine wp_serial (by kernel_rfl) (by kernel_rfl) (by repeat with_reducible (first | apply NoBad.then | apply NoBad.inBlock | apply NoBad.jump | exact NoBad.rets)) ?_)
          | fail)
        go_roundw
        case rel =>
          have hk2 := k2.out
          simp only [Wr.add, List.take_succ_cons, hd1.out] at hk2
          exact ⟨L, ⟨s'.b ++ (c :: x), s'.pl ++ [(c :: r, s'.b.length)]⟩, by simp [hd2.out], Lib.hid hLa, Lib.hid hnL3.out, (huw.tr hu1.out).tr hu2, Lib.hid ⟨dup_ok hok _ (by simp), v2, mb, nn + 1, _, hk2⟩, by simp; omega, by omega⟩
        case measure => simp [strLen, ByteArray.size, hd2.out]; omega
end Go.Proofs.Ytgdejgfmhndbhaa
