/-
  Head; the answers that the document gives.
-/
import Derived.Test.YtgdejgfmhndbhaaDeK
import Derived.Test.YtgdejgfmhndbhaaDeO
import Derived.Test.YtgdejgfmhndbhaaSmM
import Derived.Test.YtgdejgfmhndbhaaMsE
namespace Go.Proofs.Ytgdejgfmhndbhaa
open Go.RowKit
set_option linter.unusedSimpArgs false
set_option linter.unusedVariables false
theorem encS_12 {m : Msg} (hC : encC m = 0) : 12 ≤ (encS m).length := by
  obtain ⟨X, hX⟩ := enc_head m
  have := dec_enc (enc_ok hC) hC
  rw [this.1, hX, List.length_append, headW_ln]; omega
theorem rkm_new0 (s : Bs) (w : World) : RkM (w.alloc (.cells #[.string ⟨s.toArray⟩, .int .i64 0, .int .i64 0] 78 (0, 0))) w.heap.size s ⟨0, 0⟩ := alloc_last _ _ _ rfl
theorem head_w (s : Bs) (hs : s.length ≤ 70000) (hl : 12 ≤ s.length) (w : World) : Calls Try.prog 24 #[.string ⟨s.toArray⟩] w (Rets fun r w' => r = .tuple #[.int .i64 (nuN s ⟨0, 0⟩ 2), .int .i64 (dcF s / 2048 % 16 : Nat), .bool (decide (32768 ≤ dcF s)), .int .i64 0] ∧ Upd0 w w') := by
  obtain ⟨iD, hiD⟩ : ∃ x, nuN s ⟨0, 0⟩ 2 = x := ⟨_, rfl⟩
  obtain ⟨r1, hr1⟩ : ∃ x, nuI s ⟨0, 0⟩ 1 = x := ⟨_, rfl⟩
  obtain ⟨f, hf⟩ : ∃ x, dcF s = x := ⟨_, rfl⟩
  obtain ⟨r2, hr2⟩ : ∃ x, nuI s ⟨0, 0⟩ 2 = x := ⟨_, rfl⟩
  have hp1 : r1.p ≤ 70000 := hr1 ▸ nuI_p hs (Nat.zero_le _) 1
  have hf6 : f < 65536 := by rw [← hf]; exact nuN_2 _ _
  have hN0 := Lib.hid (fun (w' : World) (h : RkM w' w.heap.size s ⟨0, 0⟩) => nu_w w.heap.size s ⟨0, 0⟩ iD r1 hiD (by rw [← hr1]; rfl) w' h hs (Nat.zero_le _))
  have hN1 := Lib.hid (fun (w' : World) (h : RkM w' w.heap.size s r1) => nu_w w.heap.size s r1 f r2 (by rw [← hf, dcF, hr1]) (by rw [← hr2, nuI, hr1]) w' h hs hp1)
  obtain ⟨g1, hy1, hz1⟩ := bit_is f 15 32768 rfl (by decide) hf6
  have hy2 : bits .and .i64 ((f : Int) / 2048) 15 = ((f / 2048 % 16 : Nat) : Int) := by
    have := bit15 (f / 2048) (by omega)
    rw [show ((f / 2048 : Nat) : Int) = (f : Int) / 2048 by omega] at this
    exact this
  rw [hiD, hf]
  rw [hi_bit f hf6] at hz1
  rw [← hz1]
  obtain ⟨oP, hoP⟩ : ∃ x, f / 2048 % 16 = x := ⟨_, rfl⟩
  rw [hoP] at hy2 ⊢
  clear hiD hr1 hf hr2 hz1 hoP
  have h12 : ¬ (s.length : Int) < 12 := by omega
  have tk1 : True := trivial
  go_enter Try.func24, Try.ntmps24
  go_wp2_with (first
    | (go_at_call 49; have _t := tk1; clear tk1 _t; (with_reducible refine (hN0.out _ (rkm_new0 s w)).use ?_); rintro v w1 ⟨rfl, hm1, hu1⟩; have hm1h := Lib.hid hm1; clear hm1)
    | (go_at_call 49; (with_reducible refine (hN1.out _ hm1h.out).use ?_); rintro v w2 ⟨rfl, hm2, hu2⟩; clear hm2)
    | (with_reducible refine wp_serial (by kernel_rfl) (by kernel_rfl) (by repeat with_reducible (first | apply NoBad.then | apply NoBad.inBlock | apply NoBad.jump | exact NoBad.rets)) ?_) | fail)
  all_goals go_returns
  all_goals exact ⟨rfl, UpdT.fin (UpdT.fin (show Upd0 w (w.alloc _) from (by repeat first | with_reducible (first | exact Upd.refl _ _ | assumption | apply Upd.drew | apply Upd.alloc) | refine Upd0.tr ?_ (by with_reducible assumption) | refine Upd.setCell ?_ (fun h => absurd h (by first | exact Nat.lt_irrefl _ | (simp only []; omega))) _)) (Nat.le_refl _) hu1) (Nat.le_refl _) hu2⟩
theorem head_enc (m : Msg) (hC : encC m = 0) (w : World) : Calls Try.prog 24 #[.string ⟨(encS m).toArray⟩] w (Rets fun r w' => r = .tuple #[.int .i64 m.id, .int .i64 m.op, .bool m.re, .int .i64 0] ∧ Upd0 w w') := by
  have hB := enc_ok hC
  obtain ⟨h1, h2, h3, h4, h5⟩ := dec_enc hB hC
  have := head_w (encS m) (by rw [h1]; omega) (encS_12 hC) w
  rw [decM, if_pos h4] at h3
  have e1 : ((nuN (encS m) ⟨0, 0⟩ 2 : Nat) : Int) = m.id := congrArg Msg.id h3
  have e2 : ((dcF (encS m) / 2048 % 16 : Nat) : Int) = m.op := congrArg Msg.op h3
  have e3 : decide (32768 ≤ dcF (encS m)) = m.re := congrArg Msg.re h3
  rw [e1, e2, e3] at this
  exact this
abbrev wm4 : Msg := ⟨7, false, 0, false, false, true, false, 0, [⟨[1, 97, 1, 98], 1⟩], [⟨[1, 97, 1, 98], 2, 5, [1, 99, 1, 98, 0]⟩], [], [], 600⟩
theorem wm4_c : encC wm4 = 0 := by decide +kernel
theorem wm4_l : (encS wm4).length = 48 := by decide +kernel
theorem wm5_c : msgC ⟨0, false, 0, false, false, false, false, 0, [], [], [], [], 5⟩ = 1 := by decide +kernel
structure Lv4 (W : World) (B : Nat) : Prop where
  q : W.heap[B]? = some (.cells #[.string ⟨#[1, 97, 1, 98]⟩, .int .i64 1] 41 (0, 0))
  a : W.heap[B + 1]? = some (.cells #[.string ⟨#[1, 97, 1, 98]⟩, .int .i64 2, .int .i64 5, .string ⟨#[1, 99, 1, 98, 0]⟩] 46 (0, 0))
  m : W.heap[B + 2]? = some (.cells #[.int .i64 7, .bool false, .int .i64 0, .bool false, .bool false, .bool true, .bool false, .int .i64 0, .slice (some ⟨B, 0, none⟩) 1 1, .slice (some ⟨B + 1, 0, none⟩) 1 1, .slice none 0 0, .slice none 0 0, .int .i64 600] 25 (0, 0))
theorem Lv4.up {W W' : World} {B : Nat} (h : Lv4 W B) (k : Upd0 W W') : Lv4 W' B := ⟨k.block (fun h => h) h.q, k.block (fun h => h) h.a, k.block (fun h => h) h.m⟩
theorem wm4_rsr {W : World} {B : Nat} (h : Lv4 W B) : MsR W wm4 (some ⟨B, 0, none⟩) (some ⟨B + 1, 0, none⟩) none none := by
  refine ⟨.inr ⟨B, 0, rfl, blk_lt h.q, fun i x hx => ?_⟩, .inr ⟨B + 1, 0, rfl, blk_lt h.a, fun i x hx => ?_⟩, .inl rfl, .inl rfl⟩
  · have hi := (List.getElem?_eq_some_iff.1 hx).1
    obtain rfl : i = 0 := by simpa using hi
    simp only [List.getElem?_cons_zero, Option.some.injEq] at hx
    subst hx
    exact cell2w h.q
  · have hi := (List.getElem?_eq_some_iff.1 hx).1
    obtain rfl : i = 0 := by simpa using hi
    simp only [List.getElem?_cons_zero, Option.some.injEq] at hx
    subst hx
    obtain ⟨a, b, c, d, _⟩ := four h.a
    exact ⟨a, b, c, d⟩
theorem wm4_mid : Mid wm4 := mid_ok (enc_ok wm4_c)
theorem wlive_dec (w : World) (S : Bs) (hS : encS wm4 = S) : Calls Try.prog 23 #[.string ⟨(S ++ [120]).toArray⟩] w (Rets fun r w' => ∃ (i1 : Int) (b1 : Bool) (i2 : Int) (b2 b3 b4 b5 : Bool) (i3 : Int) (q a n x : Option Addr) (lq la ln lx cq ca cn cx : Nat) (i4 : Int), r = .tuple #[.agg #[.int .i64 i1, .bool b1, .int .i64 i2, .bool b2, .bool b3, .bool b4, .bool b5, .int .i64 i3, .slice q lq cq, .slice a la ca, .slice n ln cn, .slice x lx cx, .int .i64 i4], .int .i64 2] ∧ Upd0 w w') := by
  subst hS
  obtain ⟨h1, h2, h3, h4, h5⟩ := dec_enc (enc_ok wm4_c) wm4_c
  have he := dcE_app (c := 120) h5
  have := decode_w (encS wm4 ++ [120]) w (by rw [h1]; simp; omega)
  unfold DecQ at this
  rw [he] at this
  refine this.use ?_
  rintro v w' ⟨q, a, n, x, cq, ca, cn, cx, rfl, _, hu⟩
  exact ⟨_, _, _, _, _, _, _, _, q, a, n, x, _, _, _, _, cq, ca, cn, cx, _, rfl, hu⟩
set_option maxRecDepth 100000 in
set_option maxHeartbeats 8000000 in
theorem wlive_w (w : World) : Calls Try.prog 16 #[] w (Rets fun r w' => r = .bool true ∧ Upd0 w w') := by
  have tk1 : True := trivial
  obtain ⟨S, hS⟩ : ∃ S, encS wm4 = S := ⟨_, rfl⟩
  have hE := Lib.hid (fun (w' : World) (h : Lv4 w' w.heap.size) => encode_w wm4 (some ⟨w.heap.size, 0, none⟩) (some ⟨w.heap.size + 1, 0, none⟩) none none 1 1 0 0 w' (wm4_rsr h) wm4_mid)
  have hD := Lib.hid (fun (w' : World) => decode_enc wm4 wm4_c w')
  have hH := Lib.hid (fun (w' : World) => head_enc wm4 wm4_c w')
  have hX := Lib.hid (fun (w' : World) => wlive_dec w' S hS)
  have hl : S.length = 48 := by rw [← hS]; exact wm4_l
  have hM := Lib.hid (fun (q' a' n' x' : Option Addr) (cq' ca' cn' cx' : Nat) (w' : World) (k : MsR w' wm4 q' a' n' x') (h : Lv4 w' w.heap.size) => rsameM_w wm4 q' a' n' x' (some ⟨w.heap.size, 0, none⟩) (some ⟨w.heap.size + 1, 0, none⟩) none none cq' ca' cn' cx' 1 1 0 0 w' k (wm4_rsr h) wm4_mid)
  have hC := Lib.hid (show ∀ w' : World, Calls Try.prog 20 #[.agg #[.int .i64 0, .bool false, .int .i64 0, .bool false, .bool false, .bool false, .bool false, .int .i64 0, .slice none 0 0, .slice none 0 0, .slice none 0 0, .slice none 0 0, .int .i64 5]] w' (Rets fun r w'' => r = .int .i64 (msgC ⟨0, false, 0, false, false, false, false, 0, [], [], [], [], 5⟩) ∧ Upd0 w' w'') from fun w' => check_w ⟨0, false, 0, false, false, false, false, 0, [], [], [], [], 5⟩ none none none none 0 0 0 0 w' ⟨.inl rfl, .inl rfl, .inl rfl, .inl rfl⟩ ⟨⟨by decide, fun x hx => by cases hx⟩, ⟨by decide, fun x hx => by cases hx⟩, ⟨by decide, fun x hx => by cases hx⟩, ⟨by decide, fun x hx => by cases hx⟩⟩)
  rw [wm4_c, hS] at hE
  rw [hS] at hD hH
  rw [wm5_c] at hC
  clear hS
  have hl48 : ((S.length : Int) == 48) = true := beq_iff_eq.2 (by omega)
  have hlu : ¬ 9223372036854775807 < S.length + 1 := by omega
  clear hl
  simp only [Msg.val] at hE hD hM hC
  obtain ⟨B, hB⟩ : ∃ B, B = w.heap.size := ⟨_, rfl⟩
  clear hB
  go_enter Try.func16, Try.ntmps16
  go_wp2_with (first
    | (go_at_call 18; (refine (hE.out _ ⟨blk_alloc (blk_alloc (alloc_last _ _ _ rfl)), blk_alloc (alloc_last _ _ _ (by simp)), alloc_last _ _ _ (by simp)⟩).use ?_); rintro v w1 ⟨rfl, hu1⟩; have L1 := Lib.hid (Lv4.up (B := w.heap.size) ⟨blk_alloc (blk_alloc (alloc_last _ _ _ rfl)), blk_alloc (alloc_last _ _ _ (by simp)), alloc_last _ _ _ (by simp)⟩ hu1); obtain ⟨m10, m11, m12, m13, m14, m15, m16, m17, m18, m19, m1A, m1B, m1C⟩ := cell13w L1.out.m; have hl1 := blk_lt L1.out.m)
    | (go_at_call 23; have _t := tk1; clear tk1 _t; (with_reducible refine (hD.out _).use ?_); rintro v w2 ⟨q2, a2, n2, x2, cq2, ca2, cn2, cx2, rfl, hr2, hu2⟩; have hr2h := Lib.hid hr2; clear hr2; have L2 := Lib.hid (L1.out.up (show Upd0 w1 w2 from (by repeat first | with_reducible (first | exact Upd.refl _ _ | assumption | apply Upd.drew | apply Upd.alloc) | refine Upd0.tr ?_ (by with_reducible assumption) | refine Upd.setCell ?_ (fun h => absurd h (by first | exact Nat.lt_irrefl _ | (simp only []; omega))) _))); obtain ⟨m20, m21, m22, m23, m24, m25, m26, m27, m28, m29, m2A, m2B, m2C⟩ := cell13w L2.out.m; have hl2 := blk_lt L2.out.m)
    | (go_at_call 23; (refine (hX.out _).use ?_); rintro v w3 ⟨i1, b1, i2, b2, b3, b4, b5, i3, q3, a3, n3, x3, lq, la, ln, lx, cq, ca, cn, cx, i4, rfl, hu3⟩; have L3 := Lib.hid (L2.out.up (show Upd0 w2 w3 from (by repeat first | with_reducible (first | exact Upd.refl _ _ | assumption | apply Upd.drew | apply Upd.alloc) | refine Upd0.tr ?_ (by with_reducible assumption) | refine Upd.setCell ?_ (fun h => absurd h (by first | exact Nat.lt_irrefl _ | (simp only []; omega))) _))); obtain ⟨m30, m31, m32, m33, m34, m35, m36, m37, m38, m39, m3A, m3B, m3C⟩ := cell13w L3.out.m; have hl3 := blk_lt L3.out.m; have K3 := Lib.hid (show w3.heap[w2.heap.size]? = some (.cells #[.int .i64 7, .bool false, .int .i64 0, .bool false, .bool false, .bool true, .bool false, .int .i64 0, .slice q2 1 cq2, .slice a2 1 ca2, .slice n2 0 cn2, .slice x2 0 cx2, .int .i64 600] 25 (0, 0)) from hu3.block (fun h => h) (alloc_last _ _ _ rfl)); obtain ⟨k30, k31, k32, k33, k34, k35, k36, k37, k38, k39, k3A, k3B, k3C⟩ := cell13w K3.out; have hk3 := blk_lt K3.out)
    | (go_at_call 24; (with_reducible refine (hH.out _).use ?_); rintro v w4 ⟨rfl, hu4⟩; have L4 := Lib.hid (L3.out.up (show Upd0 w3 w4 from (by repeat first | with_reducible (first | exact Upd.refl _ _ | assumption | apply Upd.drew | apply Upd.alloc) | refine Upd0.tr ?_ (by with_reducible assumption) | refine Upd.setCell ?_ (fun h => absurd h (by first | exact Nat.lt_irrefl _ | (simp only []; omega))) _))); obtain ⟨m40, m41, m42, m43, m44, m45, m46, m47, m48, m49, m4A, m4B, m4C⟩ := cell13w L4.out.m; have hl4 := blk_lt L4.out.m; have K4 := Lib.hid (show w4.heap[w2.heap.size]? = some (.cells #[.int .i64 7, .bool false, .int .i64 0, .bool false, .bool false, .bool true, .bool false, .int .i64 0, .slice q2 1 cq2, .slice a2 1 ca2, .slice n2 0 cn2, .slice x2 0 cx2, .int .i64 600] 25 (0, 0)) from (show Upd0 w3 w4 from (by repeat first | with_reducible (first | exact Upd.refl _ _ | assumption | apply Upd.drew | apply Upd.alloc) | refine Upd0.tr ?_ (by with_reducible assumption) | refine Upd.setCell ?_ (fun h => absurd h (by first | exact Nat.lt_irrefl _ | (simp only []; omega))) _)).block (fun h => h) K3.out); obtain ⟨k40, k41, k42, k43, k44, k45, k46, k47, k48, k49, k4A, k4B, k4C⟩ := cell13w K4.out; have hk4 := blk_lt K4.out)
    | (go_at_call 22; (refine (hM.out _ _ _ _ _ _ _ _ _ (hr2h.out.up (by repeat first | with_reducible (first | exact Upd.refl _ _ | assumption | apply Upd.drew | apply Upd.alloc) | refine Upd0.tr ?_ (by with_reducible assumption) | refine Upd.setCell ?_ (fun h => absurd h (by first | exact Nat.lt_irrefl _ | (simp only []; omega))) _)) (L4.out.up (by repeat first | with_reducible (first | exact Upd.refl _ _ | assumption | apply Upd.drew | apply Upd.alloc) | refine Upd0.tr ?_ (by with_reducible assumption) | refine Upd.setCell ?_ (fun h => absurd h (by first | exact Nat.lt_irrefl _ | (simp only []; omega))) _))).use ?_); rintro v w5 ⟨rfl, hu5⟩)
    | (go_at_call 20; (with_reducible refine (hC.out _).use ?_); rintro v w6 ⟨rfl, hu6⟩)
    | (with_reducible refine wp_serial (by kernel_rfl) (by kernel_rfl) (by repeat with_reducible (first | apply NoBad.then | apply NoBad.inBlock | apply NoBad.jump | exact NoBad.rets)) ?_) | fail)
  all_goals (try go_returns)
  all_goals exact ⟨rfl, (by repeat first | with_reducible (first | exact Upd.refl _ _ | assumption | apply Upd.drew | apply Upd.alloc) | refine Upd0.tr ?_ (by with_reducible assumption) | refine Upd.setCell ?_ (fun h => absurd h (by first | exact Nat.lt_irrefl _ | (simp only []; omega))) _)⟩
end Go.Proofs.Ytgdejgfmhndbhaa
