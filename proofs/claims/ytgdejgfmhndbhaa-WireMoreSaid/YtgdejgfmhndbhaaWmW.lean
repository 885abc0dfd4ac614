/-
  WireMore: the walk.
-/
import Derived.Test.YtgdejgfmhndbhaaDeL
import Derived.Test.YtgdejgfmhndbhaaCpO
import Derived.Test.YtgdejgfmhndbhaaMsE
import Derived.Test.YtgdejgfmhndbhaaMgR
namespace Go.Proofs.Ytgdejgfmhndbhaa
open Go.RowKit
set_option linter.unusedSimpArgs false
set_option linter.unusedVariables false
theorem rsr1 {W : World} {g : Nat} {nm : Bs} {ty tl : Int} {d : Bs} (h : W.heap[g]? = some (.cells #[.string ⟨nm.toArray⟩, .int .i64 ty, .int .i64 tl, .string ⟨d.toArray⟩] 46 (0, 0))) : RsR W (some ⟨g, 0, none⟩) [⟨nm, ty, tl, d⟩] := by
  refine .inr ⟨g, 0, rfl, blk_lt h, fun i x hx => ?_⟩
  have hi := (List.getElem?_eq_some_iff.1 hx).1
  obtain rfl : i = 0 := by simpa using hi
  simp only [List.getElem?_cons_zero, Option.some.injEq] at hx
  subst hx
  obtain ⟨a, b, c, d, _⟩ := four h
  exact ⟨a, b, c, d⟩
theorem own_shape {W : World} {e : TypeId} {s n c g : Nat} {ao : Option Addr} {xs : List Value} (h : W.ownsRow 0 e s (.slice ao n c) n xs) (hg : (Value.slice ao n c).ownBlock = some g) : ao = some ⟨g, 0, none⟩ := by
  rcases h.2 with ⟨e1, _⟩ | ⟨g', cap, cur, e1, _⟩
  · injection e1 with e1; subst e1; simp [Value.ownBlock] at hg
  · injection e1 with e1 _ _; subst e1
    simp [Value.ownBlock] at hg
    rw [hg]
theorem more_msr {w4 w5 : World} {m : Msg} {r : Rc} {q a n x ao2 : Option Addr} {cx cap2 : Nat} {o1 o2 : Obj} (hR : MsR w4 m q a n x) (hx : w4.ownsRow 0 46 4 (.slice x m.ex.length cx) m.ex.length (m.ex.flatMap Rc.cells))
    (h1 : ∀ g o g' o', (a = some ⟨g, o, none⟩ ∨ n = some ⟨g, o, none⟩) → x = some ⟨g', o', none⟩ → g < g') (h2 : ∀ g o g' o', q = some ⟨g, o, none⟩ → (n = some ⟨g', o', none⟩ ∨ x = some ⟨g', o', none⟩) → g < g')
    (hrow : w5.ownsRow 0 46 4 (.slice ao2 (m.ex.length + 1) cap2) (m.ex.length + 1) (m.ex.flatMap Rc.cells ++ r.cells)) (hu : Upd (fun g => (Value.slice x m.ex.length cx).ownBlock = some g) ((w4.alloc o1).alloc o2) w5)
    (hf : Fresh ((w4.alloc o1).alloc o2) (.slice x m.ex.length cx) (.slice ao2 (m.ex.length + 1) cap2)) (v : Value) : MsR (w5.setCell ⟨w4.heap.size, 11, none⟩ v) (m.more r) q a n ao2 := by
  let S : Nat → Prop := fun g => (Value.slice x m.ex.length cx).ownBlock = some g ∨ g = w4.heap.size
  have u1 : Upd S w4 w5 := Upd.trans (S := S) (((Upd.refl S w4).alloc o1).alloc o2) hu (fun _ _ h => .inl h)
  have u2 : Upd S w4 (w5.setCell ⟨w4.heap.size, 11, none⟩ v) := u1.setCell (p := ⟨w4.heap.size, 11, none⟩) (fun _ => .inr rfl) v
  refine ⟨?_, ?_, ?_, ?_⟩
  · rcases hR.qs with h | ⟨g, o, e1, e2, e3⟩
    · exact .inl h
    · refine hR.qs.upB u2 (fun g' o' e hS => ?_)
      rw [e1] at e; injection e with e; injection e with e _ _
      subst e
      rcases hS with hS | hS
      · have := h2 g o g 0 e1 (.inr (own_shape hx hS)); omega
      · omega
  · rcases hR.an with h | ⟨g, o, e1, e2, e3⟩
    · exact .inl h
    · refine hR.an.upB u2 (fun g' o' e hS => ?_)
      rw [e1] at e; injection e with e; injection e with e _ _
      subst e
      rcases hS with hS | hS
      · have := h1 g o g 0 (.inl e1) (own_shape hx hS); omega
      · omega
  · rcases hR.ns with h | ⟨g, o, e1, e2, e3⟩
    · exact .inl h
    · refine hR.ns.upB u2 (fun g' o' e hS => ?_)
      rw [e1] at e; injection e with e; injection e with e _ _
      subst e
      rcases hS with hS | hS
      · have := h1 g o g 0 (.inr e1) (own_shape hx hS); omega
      · omega
  · have hrow2 : (w5.setCell ⟨w4.heap.size, 11, none⟩ v).ownsRow 0 46 4 (.slice ao2 (m.ex.length + 1) cap2) (m.ex.length + 1) ((m.ex ++ [r]).flatMap Rc.cells) := by
      rw [List.flatMap_append]
      refine ownsRow_upd (S := fun g => g = w4.heap.size) (by simpa using hrow) ((Upd.refl (fun g => g = w4.heap.size) w5).setCell (p := ⟨w4.heap.size, 11, none⟩) (fun _ => rfl) v) (fun g hg e => ?_)
      rcases hf g hg with h | h
      · have := ownsRow_lt hx h; omega
      · simp at h; omega
    exact own_rsr hrow2 (by simp [Msg.more])
theorem mid_more {m : Msg} {r : Rc} (h : Mid m) (hl : m.ex.length ≤ 4000) (h1 : r.nm.length ≤ 300) (h2 : r.d.length ≤ 300) : Mid (m.more r) := by
  refine ⟨h.qs, h.an, h.ns, ⟨by simp [Msg.more]; omega, fun x hx => ?_⟩⟩
  simp only [Msg.more, List.mem_append, List.mem_singleton] at hx
  rcases hx with hx | rfl
  · exact h.ex.2 x hx
  · omega
theorem more_le {m : Msg} {r : Rc} (h1 : encC m = 0) (h2 : encC (m.more r) = 0) : (encS m).length + 11 ≤ (encS (m.more r)).length ∧ (encS (m.more r)).length ≤ (encS m).length + r.nm.length + 11 + r.d.length := by
  have e1 := (dec_enc (enc_ok h1) h1).1
  have e2 := (dec_enc (enc_ok h2) h2).1
  have hx := (head_ok (enc_ok h2)).2.2.2.2.2.2.2.2
  have hok : r.ok = true := by
    simp only [Msg.more, List.all_append, List.all_cons, List.all_nil, Bool.and_true, Bool.and_eq_true] at hx
    exact hx.2
  rw [e1, e2]
  exact more_len hok
set_option maxRecDepth 100000 in
set_option maxHeartbeats 8000000 in
theorem wireMore_walk (m : Msg) (q a n x : Option Addr) (cq ca cn cx : Nat) (nm : Bs) (ty tl : Int) (d : Bs) (w : World) (h : MsR w m q a n x) (hb : m.big) :
    Calls Try.prog 9 #[m.val q a n x cq ca cn cx, .agg #[.string ⟨nm.toArray⟩, .int .i64 ty, .int .i64 tl, .string ⟨d.toArray⟩]] w (Rets fun r w' => r = .bool true ∧ Upd0 w w') := by
  obtain ⟨i0, hi, hz0, hz1, hz2⟩ := info_parts info_r
  have hF := Lib.hid (fun (w' : World) (u : Upd0 w w') => few_w m q a n x cq ca cn cx w' (h.up u) hb)
  have hSh := Lib.hid (fun (g : Nat) (w' : World) (hg : w'.heap[g]? = some (.cells #[.string ⟨nm.toArray⟩, .int .i64 ty, .int .i64 tl, .string ⟨d.toArray⟩] 46 (0, 0))) => short_w (some ⟨g, 0, none⟩) 1 [⟨nm, ty, tl, d⟩] w' (rsr1 hg) (by unfold maxLen; simp))
  cases hf : fewB m with
  | false =>
    rw [hf] at hF
    clear hf h hb
    obtain ⟨id, re, op, au, tr, wa, av, rc, qs, an, ns, ex, sz⟩ := m
    simp only [Msg.val] at hF ⊢
    go_enter Try.func9, Try.ntmps9
    go_wp2_with (first
      | (go_at_call 15; (with_reducible refine (hF.out _ (by repeat first | with_reducible (first | exact Upd.refl _ _ | assumption | apply Upd.drew | apply Upd.alloc) | refine Upd0.tr ?_ (by with_reducible assumption) | refine Upd.setCell ?_ (fun h => absurd h (by first | exact Nat.lt_irrefl _ | (simp only []; omega))) _)).use ?_); rintro v w1 ⟨rfl, hu1⟩; have L1 := Lib.hid (show w1.heap[w.heap.size]? = some (.cells #[.int .i64 id, .bool re, .int .i64 op, .bool au, .bool tr, .bool wa, .bool av, .int .i64 rc, .slice q qs.length cq, .slice a an.length ca, .slice n ns.length cn, .slice x ex.length cx, .int .i64 sz] 25 (0, 0)) from hu1.block (fun h => h) (blk_alloc (alloc_last _ _ _ rfl))); obtain ⟨m10, m11, m12, m13, m14, m15, m16, m17, m18, m19, m1A, m1B, m1C⟩ := cell13w L1.out; have hl1 := blk_lt L1.out; have R1 := Lib.hid (show w1.heap[w.heap.size + 1]? = some (.cells #[.string ⟨nm.toArray⟩, .int .i64 ty, .int .i64 tl, .string ⟨d.toArray⟩] 46 (0, 0)) from hu1.block (fun h => h) (alloc_last _ _ _ (by simp))); obtain ⟨f10, f11, f12, f13, f14⟩ := four R1.out; have hr1 := blk_lt R1.out)
      | (go_at_call 16; (with_reducible refine (wlive_w _).use ?_); rintro v wL ⟨rfl, huL⟩)
      | (with_reducible refine wp_serial (by kernel_rfl) (by kernel_rfl) (by repeat with_reducible (first | apply NoBad.then | apply NoBad.inBlock | apply NoBad.jump | exact NoBad.rets)) ?_) | fail)
    all_goals (try go_returns)
    all_goals exact ⟨rfl, (by repeat first | with_reducible (first | exact Upd.refl _ _ | assumption | apply Upd.drew | apply Upd.alloc) | refine Upd0.tr ?_ (by with_reducible assumption) | refine Upd.setCell ?_ (fun h => absurd h (by first | exact Nat.lt_irrefl _ | (simp only []; omega))) _)⟩
  | true =>
    rw [hf] at hF
    cases hs : shB [(⟨nm, ty, tl, d⟩ : Rc)] with
    | false =>
      rw [hs] at hSh
      clear hf h hb hs
      obtain ⟨id, re, op, au, tr, wa, av, rc, qs, an, ns, ex, sz⟩ := m
      simp only [Msg.val] at hF ⊢
      go_enter Try.func9, Try.ntmps9
      go_wp2_with (first
        | (go_at_call 15; (with_reducible refine (hF.out _ (by repeat first | with_reducible (first | exact Upd.refl _ _ | assumption | apply Upd.drew | apply Upd.alloc) | refine Upd0.tr ?_ (by with_reducible assumption) | refine Upd.setCell ?_ (fun h => absurd h (by first | exact Nat.lt_irrefl _ | (simp only []; omega))) _)).use ?_); rintro v w1 ⟨rfl, hu1⟩; have L1 := Lib.hid (show w1.heap[w.heap.size]? = some (.cells #[.int .i64 id, .bool re, .int .i64 op, .bool au, .bool tr, .bool wa, .bool av, .int .i64 rc, .slice q qs.length cq, .slice a an.length ca, .slice n ns.length cn, .slice x ex.length cx, .int .i64 sz] 25 (0, 0)) from hu1.block (fun h => h) (blk_alloc (alloc_last _ _ _ rfl))); obtain ⟨m10, m11, m12, m13, m14, m15, m16, m17, m18, m19, m1A, m1B, m1C⟩ := cell13w L1.out; have hl1 := blk_lt L1.out; have R1 := Lib.hid (show w1.heap[w.heap.size + 1]? = some (.cells #[.string ⟨nm.toArray⟩, .int .i64 ty, .int .i64 tl, .string ⟨d.toArray⟩] 46 (0, 0)) from hu1.block (fun h => h) (alloc_last _ _ _ (by simp))); obtain ⟨f10, f11, f12, f13, f14⟩ := four R1.out; have hr1 := blk_lt R1.out)
        | (go_at_call 25; (refine (hSh.out w1.heap.size _ (alloc_last _ _ _ rfl)).use ?_); rintro v w2 ⟨rfl, hu2⟩; have L2 := Lib.hid (show w2.heap[w.heap.size]? = some (.cells #[.int .i64 id, .bool re, .int .i64 op, .bool au, .bool tr, .bool wa, .bool av, .int .i64 rc, .slice q qs.length cq, .slice a an.length ca, .slice n ns.length cn, .slice x ex.length cx, .int .i64 sz] 25 (0, 0)) from (show Upd0 w1 w2 from (by repeat first | with_reducible (first | exact Upd.refl _ _ | assumption | apply Upd.drew | apply Upd.alloc) | refine Upd0.tr ?_ (by with_reducible assumption) | refine Upd.setCell ?_ (fun h => absurd h (by first | exact Nat.lt_irrefl _ | (simp only []; omega))) _)).block (fun h => h) L1.out); obtain ⟨m20, m21, m22, m23, m24, m25, m26, m27, m28, m29, m2A, m2B, m2C⟩ := cell13w L2.out; have hl2 := blk_lt L2.out; have R2 := Lib.hid (show w2.heap[w.heap.size + 1]? = some (.cells #[.string ⟨nm.toArray⟩, .int .i64 ty, .int .i64 tl, .string ⟨d.toArray⟩] 46 (0, 0)) from (show Upd0 w1 w2 from (by repeat first | with_reducible (first | exact Upd.refl _ _ | assumption | apply Upd.drew | apply Upd.alloc) | refine Upd0.tr ?_ (by with_reducible assumption) | refine Upd.setCell ?_ (fun h => absurd h (by first | exact Nat.lt_irrefl _ | (simp only []; omega))) _)).block (fun h => h) R1.out); obtain ⟨f20, f21, f22, f23, f24⟩ := four R2.out; have hr2 := blk_lt R2.out)
        | (go_at_call 16; (with_reducible refine (wlive_w _).use ?_); rintro v wL ⟨rfl, huL⟩)
        | (with_reducible refine wp_serial (by kernel_rfl) (by kernel_rfl) (by repeat with_reducible (first | apply NoBad.then | apply NoBad.inBlock | apply NoBad.jump | exact NoBad.rets)) ?_) | fail)
      all_goals (try go_returns)
      all_goals exact ⟨rfl, (by repeat first | with_reducible (first | exact Upd.refl _ _ | assumption | apply Upd.drew | apply Upd.alloc) | refine Upd0.tr ?_ (by with_reducible assumption) | refine Upd.setCell ?_ (fun h => absurd h (by first | exact Nat.lt_irrefl _ | (simp only []; omega))) _)⟩
    | true =>
      rw [hs] at hSh
      have hmid := few_mid hf
      have hr : nm.length ≤ 300 ∧ d.length ≤ 300 := by
        simp only [shB, List.all_cons, List.all_nil, Bool.and_true, Bool.and_eq_true, decide_eq_true_eq, Rc.sh] at hs
        exact hs.2
      have hx25 : m.ex.length ≤ 25 := by
        simp only [fewB, shB, Bool.and_eq_true, decide_eq_true_eq] at hf
        exact hf.2.2.2.1
      have hmid2 : Mid (m.more ⟨nm, ty, tl, d⟩) := mid_more hmid (by omega) hr.1 hr.2
      have hE := Lib.hid (fun (w' : World) (u : Upd0 w w') => encode_w m q a n x cq ca cn cx w' (h.up u) hmid)
      have hCp := Lib.hid (fun (w' : World) (u : Upd0 w w') => copy_o m q a n x cq ca cn cx w' (h.up u) hmid)
      have hE2 := Lib.hid (fun (q a n x : Option Addr) (cq ca cn cx : Nat) (w' : World) (k : MsR w' (m.more ⟨nm, ty, tl, d⟩) q a n x) => encode_w (m.more ⟨nm, ty, tl, d⟩) q a n x cq ca cn cx w' k hmid2)
      have hle := fun h1 h2 => more_le (m := m) (r := ⟨nm, ty, tl, d⟩) h1 h2
      have hS1 := encS_len (m := m)
      have hS2 := encS_len (m := m.more ⟨nm, ty, tl, d⟩)
      obtain ⟨c, hc⟩ : ∃ c, encC m = c := ⟨_, rfl⟩
      obtain ⟨S, hS⟩ : ∃ S, encS m = S := ⟨_, rfl⟩
      obtain ⟨c2, hc2⟩ : ∃ c, encC (m.more ⟨nm, ty, tl, d⟩) = c := ⟨_, rfl⟩
      obtain ⟨T, hT⟩ : ∃ S, encS (m.more ⟨nm, ty, tl, d⟩) = S := ⟨_, rfl⟩
      rw [hc, hS] at hE
      rw [hc2, hT] at hE2
      rw [hc, hS, hc2, hT] at hle
      rw [hS] at hS1
      rw [hT] at hS2
      have hleh := Lib.hid hle
      clear hf h hb hs hmid hmid2 hle hc hS hc2 hT
      obtain ⟨id, re, op, au, tr, wa, av, rc, qs, an, ns, ex, sz⟩ := m
      simp only [] at hx25
      simp only [Msg.val, Msg.more, List.length_append, List.length_cons, List.length_nil, Nat.zero_add] at hF hE hE2 hCp ⊢
      have tk1 : True := trivial
      have ways : (c != 0) = true ∨ ((c = 0) ∧ (c2 != 0) = true) ∨ (c = 0 ∧ c2 = 0) := by
        by_cases h1 : c = 0
        · by_cases h2 : c2 = 0
          · exact .inr (.inr ⟨h1, h2⟩)
          · exact .inr (.inl ⟨h1, bne_iff_ne.2 h2⟩)
        · exact .inl (bne_iff_ne.2 h1)
      rcases ways with h1 | ⟨rfl, h2⟩ | ⟨rfl, rfl⟩
      all_goals
        obtain ⟨hr1, hr2⟩ := hr
        try (have hll := hleh.out rfl rfl; simp only [] at hll; have g1 : (S.length : Int) + 11 ≤ (T.length : Int) := (by omega); have g2 : (T.length : Int) ≤ (S.length : Int) + (nm.length : Int) + 11 + (d.length : Int) := (by omega))
        go_enter Try.func9, Try.ntmps9
        go_wp2_with (first
          | (go_at_call 15; (with_reducible refine (hF.out _ (by repeat first | with_reducible (first | exact Upd.refl _ _ | assumption | apply Upd.drew | apply Upd.alloc) | refine Upd0.tr ?_ (by with_reducible assumption) | refine Upd.setCell ?_ (fun h => absurd h (by first | exact Nat.lt_irrefl _ | (simp only []; omega))) _)).use ?_); rintro v w1 ⟨rfl, hu1⟩; have L1 := Lib.hid (show w1.heap[w.heap.size]? = some (.cells #[.int .i64 id, .bool re, .int .i64 op, .bool au, .bool tr, .bool wa, .bool av, .int .i64 rc, .slice q qs.length cq, .slice a an.length ca, .slice n ns.length cn, .slice x ex.length cx, .int .i64 sz] 25 (0, 0)) from hu1.block (fun h => h) (blk_alloc (alloc_last _ _ _ rfl))); obtain ⟨m10, m11, m12, m13, m14, m15, m16, m17, m18, m19, m1A, m1B, m1C⟩ := cell13w L1.out; have hl1 := blk_lt L1.out; have R1 := Lib.hid (show w1.heap[w.heap.size + 1]? = some (.cells #[.string ⟨nm.toArray⟩, .int .i64 ty, .int .i64 tl, .string ⟨d.toArray⟩] 46 (0, 0)) from hu1.block (fun h => h) (alloc_last _ _ _ (by simp))); obtain ⟨f10, f11, f12, f13, f14⟩ := four R1.out; have hr1 := blk_lt R1.out)
          | (go_at_call 25; (refine (hSh.out w1.heap.size _ (alloc_last _ _ _ rfl)).use ?_); rintro v w2 ⟨rfl, hu2⟩; have L2 := Lib.hid (show w2.heap[w.heap.size]? = some (.cells #[.int .i64 id, .bool re, .int .i64 op, .bool au, .bool tr, .bool wa, .bool av, .int .i64 rc, .slice q qs.length cq, .slice a an.length ca, .slice n ns.length cn, .slice x ex.length cx, .int .i64 sz] 25 (0, 0)) from (show Upd0 w1 w2 from (by repeat first | with_reducible (first | exact Upd.refl _ _ | assumption | apply Upd.drew | apply Upd.alloc) | refine Upd0.tr ?_ (by with_reducible assumption) | refine Upd.setCell ?_ (fun h => absurd h (by first | exact Nat.lt_irrefl _ | (simp only []; omega))) _)).block (fun h => h) L1.out); obtain ⟨m20, m21, m22, m23, m24, m25, m26, m27, m28, m29, m2A, m2B, m2C⟩ := cell13w L2.out; have hl2 := blk_lt L2.out; have R2 := Lib.hid (show w2.heap[w.heap.size + 1]? = some (.cells #[.string ⟨nm.toArray⟩, .int .i64 ty, .int .i64 tl, .string ⟨d.toArray⟩] 46 (0, 0)) from (show Upd0 w1 w2 from (by repeat first | with_reducible (first | exact Upd.refl _ _ | assumption | apply Upd.drew | apply Upd.alloc) | refine Upd0.tr ?_ (by with_reducible assumption) | refine Upd.setCell ?_ (fun h => absurd h (by first | exact Nat.lt_irrefl _ | (simp only []; omega))) _)).block (fun h => h) R1.out); obtain ⟨f20, f21, f22, f23, f24⟩ := four R2.out; have hr2 := blk_lt R2.out)
          | (go_at_call 18; have _t := tk1; clear tk1 _t; (with_reducible refine (hE.out _ (by repeat first | with_reducible (first | exact Upd.refl _ _ | assumption | apply Upd.drew | apply Upd.alloc) | refine Upd0.tr ?_ (by with_reducible assumption) | refine Upd.setCell ?_ (fun h => absurd h (by first | exact Nat.lt_irrefl _ | (simp only []; omega))) _)).use ?_); rintro v w3 ⟨rfl, hu3⟩; have L3 := Lib.hid (show w3.heap[w.heap.size]? = some (.cells #[.int .i64 id, .bool re, .int .i64 op, .bool au, .bool tr, .bool wa, .bool av, .int .i64 rc, .slice q qs.length cq, .slice a an.length ca, .slice n ns.length cn, .slice x ex.length cx, .int .i64 sz] 25 (0, 0)) from (show Upd0 w2 w3 from (by repeat first | with_reducible (first | exact Upd.refl _ _ | assumption | apply Upd.drew | apply Upd.alloc) | refine Upd0.tr ?_ (by with_reducible assumption) | refine Upd.setCell ?_ (fun h => absurd h (by first | exact Nat.lt_irrefl _ | (simp only []; omega))) _)).block (fun h => h) L2.out); obtain ⟨m30, m31, m32, m33, m34, m35, m36, m37, m38, m39, m3A, m3B, m3C⟩ := cell13w L3.out; have hl3 := blk_lt L3.out; have R3 := Lib.hid (show w3.heap[w.heap.size + 1]? = some (.cells #[.string ⟨nm.toArray⟩, .int .i64 ty, .int .i64 tl, .string ⟨d.toArray⟩] 46 (0, 0)) from (show Upd0 w2 w3 from (by repeat first | with_reducible (first | exact Upd.refl _ _ | assumption | apply Upd.drew | apply Upd.alloc) | refine Upd0.tr ?_ (by with_reducible assumption) | refine Upd.setCell ?_ (fun h => absurd h (by first | exact Nat.lt_irrefl _ | (simp only []; omega))) _)).block (fun h => h) R2.out); obtain ⟨f30, f31, f32, f33, f34⟩ := four R3.out; have hr3 := blk_lt R3.out)
          | (go_at_call 17; (with_reducible refine (hCp.out _ (by repeat first | with_reducible (first | exact Upd.refl _ _ | assumption | apply Upd.drew | apply Upd.alloc) | refine Upd0.tr ?_ (by with_reducible assumption) | refine Upd.setCell ?_ (fun h => absurd h (by first | exact Nat.lt_irrefl _ | (simp only []; omega))) _)).use ?_); rintro v w4 ⟨q4, a4, n4, x4, cq4, ca4, cn4, cx4, rfl, ⟨_, _, _, ox4⟩, hR4, hu4, hn4, hl4, hp4⟩; have ox4h := Lib.hid ox4; have hR4h := Lib.hid hR4; have hn4h := Lib.hid hn4; have hl4h := Lib.hid hl4; have hp4h := Lib.hid hp4; clear ox4 hR4 hn4 hl4 hp4; have L4 := Lib.hid (show w4.heap[w.heap.size]? = some (.cells #[.int .i64 id, .bool re, .int .i64 op, .bool au, .bool tr, .bool wa, .bool av, .int .i64 rc, .slice q qs.length cq, .slice a an.length ca, .slice n ns.length cn, .slice x ex.length cx, .int .i64 sz] 25 (0, 0)) from (show Upd0 w3 w4 from (by repeat first | with_reducible (first | exact Upd.refl _ _ | assumption | apply Upd.drew | apply Upd.alloc) | refine Upd0.tr ?_ (by with_reducible assumption) | refine Upd.setCell ?_ (fun h => absurd h (by first | exact Nat.lt_irrefl _ | (simp only []; omega))) _)).block (fun h => h) L3.out); obtain ⟨m40, m41, m42, m43, m44, m45, m46, m47, m48, m49, m4A, m4B, m4C⟩ := cell13w L4.out; have hk4 := blk_lt L4.out; have R4 := Lib.hid (show w4.heap[w.heap.size + 1]? = some (.cells #[.string ⟨nm.toArray⟩, .int .i64 ty, .int .i64 tl, .string ⟨d.toArray⟩] 46 (0, 0)) from (show Upd0 w3 w4 from (by repeat first | with_reducible (first | exact Upd.refl _ _ | assumption | apply Upd.drew | apply Upd.alloc) | refine Upd0.tr ?_ (by with_reducible assumption) | refine Upd.setCell ?_ (fun h => absurd h (by first | exact Nat.lt_irrefl _ | (simp only []; omega))) _)).block (fun h => h) R3.out); obtain ⟨f40, f41, f42, f43, f44⟩ := four R4.out; have hs4 := blk_lt R4.out)
          | (at_builtin; refine wpList_app (w := w4) (by repeat first | exact Ext.refl _ | assumption | apply Ext.drew | apply Ext.alloc) rfl (.tmp 28) (.tmp 30) 23 rfl 46 i0 _ 4 48 Try.underlying23 hi hz0 hz1 hz2 rfl (by decide) _ _ _ ox4h.out rfl _ _ _ [.string ⟨nm.toArray⟩, .int .i64 ty, .int .i64 tl, .string ⟨d.toArray⟩] rfl rfl (alloc_last _ _ _ (by simp)) rfl (by omega) (by omega) ?_; intro ao2 cap2 w5 hrA huA hfA; have hrAh := Lib.hid hrA; have huAh := Lib.hid huA; have hfAh := Lib.hid hfA; have hbig := Lib.hid (show ∀ g, (Value.slice x4 ex.length cx4).ownBlock = some g → w3.heap.size ≤ g ∧ g < w4.heap.size from fun g e => ⟨hn4h.out g 0 (.inr (.inr (.inr (own_shape ox4h.out e)))), ownsRow_lt ox4h.out e⟩); have L5 := Lib.hid (show w5.heap[w.heap.size]? = some (.cells #[.int .i64 id, .bool re, .int .i64 op, .bool au, .bool tr, .bool wa, .bool av, .int .i64 rc, .slice q qs.length cq, .slice a an.length ca, .slice n ns.length cn, .slice x ex.length cx, .int .i64 sz] 25 (0, 0)) from huA.block (fun e => by have := hbig.out _ e; omega) (blk_alloc (blk_alloc L4.out))); obtain ⟨m50, m51, m52, m53, m54, m55, m56, m57, m58, m59, m5A, m5B, m5C⟩ := cell13w L5.out; have hl5 := blk_lt L5.out; have R5 := Lib.hid (show w5.heap[w.heap.size + 1]? = some (.cells #[.string ⟨nm.toArray⟩, .int .i64 ty, .int .i64 tl, .string ⟨d.toArray⟩] 46 (0, 0)) from huA.block (fun e => by have := hbig.out _ e; omega) (blk_alloc (blk_alloc R4.out))); have K5 := Lib.hid (show w5.heap[w4.heap.size]? = some (.cells #[.int .i64 id, .bool re, .int .i64 op, .bool au, .bool tr, .bool wa, .bool av, .int .i64 rc, .slice q4 qs.length cq4, .slice a4 an.length ca4, .slice n4 ns.length cn4, .slice x4 ex.length cx4, .int .i64 sz] 25 (0, 0)) from huA.block (fun e => by have := hbig.out _ e; omega) (blk_alloc (alloc_last _ _ _ rfl))); obtain ⟨k50, k51, k52, k53, k54, k55, k56, k57, k58, k59, k5A, k5B, k5C⟩ := cell13w K5.out; have hk5 := blk_lt K5.out; have fk5 := fun i => blk_frz K5.out i; have hu5 := Lib.hid (show Upd0 w w5 from Upd.trans (show Upd0 w ((w4.alloc _).alloc _) from (by repeat first | with_reducible (first | exact Upd.refl _ _ | assumption | apply Upd.drew | apply Upd.alloc) | refine Upd0.tr ?_ (by with_reducible assumption) | refine Upd.setCell ?_ (fun h => absurd h (by first | exact Nat.lt_irrefl _ | (simp only []; omega))) _)) huA (fun g hg e => by have := hbig.out _ e; omega)); clear hrA huA hfA)
          | (go_at_call 18; have _k := K5; clear _k; (refine (hE2.out _ _ _ _ _ _ _ _ _ (show MsR _ ⟨id, re, op, au, tr, wa, av, rc, qs, an, ns, ex ++ [⟨nm, ty, tl, d⟩], sz⟩ _ _ _ _ from more_msr (m := ⟨id, re, op, au, tr, wa, av, rc, qs, an, ns, ex, sz⟩) (r := ⟨nm, ty, tl, d⟩) hR4h.out ox4h.out hl4h.out hp4h.out hrAh.out huAh.out hfAh.out _)).use ?_); rintro v w6 ⟨rfl, hu6⟩; have huF := Lib.hid (show Upd0 w w6 from Upd0.tr (hu5.out.setCell (p := ⟨w4.heap.size, 11, none⟩) (fun h => absurd h (by simp only []; omega)) _) hu6); have R6 := Lib.hid (show w6.heap[w.heap.size + 1]? = some (.cells #[.string ⟨nm.toArray⟩, .int .i64 ty, .int .i64 tl, .string ⟨d.toArray⟩] 46 (0, 0)) from hu6.block (fun h => h) ((blk_set_other (by omega) 11 _).trans R5.out)); obtain ⟨f60, f61, f62, f63, f64⟩ := four R6.out; have hr6 := blk_lt R6.out)
          | (go_at_call 16; (with_reducible refine (wlive_w _).use ?_); rintro v wL ⟨rfl, huL⟩)
          | (with_reducible refine wp_serial (by kernel_rfl) (by kernel_rfl) (by repeat with_reducible (first | apply NoBad.then | apply NoBad.inBlock | apply NoBad.jump | exact NoBad.rets)) ?_) | fail)
        all_goals (try go_returns)
        all_goals exact ⟨rfl, by first | exact huF.out.tr huL | exact huF.out⟩
end Go.Proofs.Ytgdejgfmhndbhaa
