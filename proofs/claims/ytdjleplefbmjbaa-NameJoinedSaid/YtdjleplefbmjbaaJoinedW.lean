/-
  The walk of NameJoined: labels one behind the other are the name of both.
-/
import Derived.Test.YtdjleplefbmjbaaNmL
import Derived.Laws.AppendOwnNone
namespace Go.Proofs.Ytdjleplefbmjbaa
open Go.RowKit
set_option linter.unusedSimpArgs false
set_option linter.unusedVariables false
/-- append of a slice that is known, nil too -/
theorem wpList_appO {P : Program} {w W : World} (hext : Ext w W) {ops : Array Oper} {rest : List Oper} {o : Oper} {a : Act} {Q : Exit → Act → World → Prop} (hgd : o.guard = none) (s x : Operand) (t : TypeId)
    (ho : o.op = .call { callee := .builtin .append, args := #[s, x], argTypes := #[t, t] })
    (e : TypeId) (i : TypeInfo) (z : Value) (size bytes : Nat) (ht : P.underlying t = some (.slice e)) (hi : P.info? e = some i) (hz : i.zero = some z)
    (hsize : i.size = size) (hby : i.bytes = bytes) (hzs : z.cells.size = size) (hsz : 0 < size)
    (v : Value) (n : Nat) (xs : List Value) (hown : w.ownsRow 0 e size v n xs) (hs : a.eval s = v)
    (ax : Option Addr) (m c B : Nat) (news : List Value) (hx : a.eval x = .slice ax m c) (hsrc : W.ownsRow B e size (.slice ax m c) m news) (h1 : news.all (·.oneCell') = true)
    (hbytes : (n + m) * bytes ≤ 140737488355328) (h63 : n + m ≤ 140737488355328)
    (h : ∀ ao' cap' W', W'.ownsRow 0 e size (.slice ao' (n + m) cap') (n + m) (xs ++ news) → Upd (fun k => v.ownBlock = some k) W W' → Fresh W v (.slice ao' (n + m) cap') → wpList P ops Q rest (a.put o.dst (.slice ao' (n + m) cap')) W') : wpList P ops Q (o :: rest) a W := by
  cases ax with
  | none =>
    have hm : m = 0 := by
      rcases hsrc.2 with ⟨_, h0⟩ | ⟨g, cap, cur, hv, _⟩
      · exact h0
      · cases hv
    have hc : c = 0 := by
      rcases hsrc.2 with ⟨hv, _⟩ | ⟨g, cap, cur, hv, _⟩
      · injection hv
      · cases hv
    subst hm
    subst hc
    obtain rfl : news = [] := ownsRow_nil0 hsrc
    obtain ⟨ao, cap, rfl⟩ := ownsRow_slice hown
    have hW := ownsRow_ext hown hext
    refine wpList_append_own_none hgd s x t ho 0 e i size ht hi _ n xs hs hW hx ?_
    exact h ao cap W (by simpa using hW) (Upd.refl _ _) (Fresh.refl _ _)
  | some ad =>
    obtain ⟨g, rfl⟩ : ∃ g, ad = ⟨g, 0, none⟩ := by
      rcases hsrc.2 with ⟨hv, _⟩ | ⟨g, cap, cur, hv, _⟩
      · cases hv
      · injection hv with h1; injection h1 with h1; exact ⟨g, h1⟩
    refine wpList_plain hgd fun _ hK => ?_
    obtain ⟨ao', cap', W', hr, h2, h3, h4, _⟩ := run_append_blk (P := P) hext t o.type e i z size bytes ht hi hz hsize hby hzs hsz v n xs hown ⟨g, 0, none⟩ m c news hsrc.1
      (fun j u hu => hsrc.cells rfl j u hu) (fun u hu => List.all_eq_true.1 h1 u hu) hbytes h63
    unfold Oper.wp execOp
    simp only [ho, resolve, invoke, builtin, Sem.run_bind, Sem.run_pure, Result.andThen_ok, List.map_toArray, List.map_cons, List.map_nil, hs, hx, hr]
    exact hK _ _ (h ao' cap' W' h2 h3 h4)
theorem strs_cells (L : List Bs) : (strs L).all (·.oneCell') = true := List.all_eq_true.2 (fun v hv => by simp only [strs, List.mem_map] at hv; obtain ⟨x, _, rfl⟩ := hv; rfl)
set_option maxRecDepth 100000 in
set_option maxHeartbeats 1000000 in
theorem nameJoined_walk (a b : Bs) (w : World) : Calls Try.prog 10 #[.string ⟨a.toArray⟩, .string ⟨b.toArray⟩] w (Rets fun r w' => r = .bool true ∧ Upd0 w w') := by
  rcases Nat.lt_or_ge 400 a.length with hlong | hsa
  · have ha := Lib.hid (decide_eq_false (Nat.not_le.2 hlong))
    go_enter Try.func10, Try.ntmps10
    go_wp2_with (first
      | (go_at_call 15; (with_reducible refine (nshort_w a _).use ?_); rintro v w1 ⟨rfl, hu1⟩; rw [ha.out])
      | (go_at_call 16; (with_reducible refine (nlive_w _).use ?_); rintro v w2 ⟨rfl, hu2⟩)
      | (with_reducible refine wp_serial (by kernel_rfl) (by kernel_rfl) (by (repeat (first | (with_reducible apply NoBad.then) | (with_reducible apply NoBad.inBlock) | (with_reducible exact NoBad.rets))); done) ?_) | fail)
    all_goals go_returns
    all_goals exact ⟨rfl, (by (repeat (first | (with_reducible exact Upd.refl _ _) | (with_reducible assumption) | (with_reducible apply Upd.drew) | (with_reducible apply Upd.alloc) | (refine Upd0.tr ?_ (by with_reducible assumption)) | (refine Upd.setCell ?_ (fun h => absurd h (by first | exact Nat.lt_irrefl _ | (simp only []; omega))) _))); done)⟩
  have ha := Lib.hid (decide_eq_true hsa)
  rcases Nat.lt_or_ge 400 b.length with hlong | hsb
  · have hb := Lib.hid (decide_eq_false (Nat.not_le.2 hlong))
    have tk0 : True := trivial
    go_enter Try.func10, Try.ntmps10
    go_wp2_with (first
      | (go_at_call 15; have _t := tk0; (with_reducible refine (nshort_w a _).use ?_); rintro v w1 ⟨rfl, hu1⟩; rw [ha.out]; clear tk0 _t)
      | (go_at_call 15; (with_reducible refine (nshort_w b _).use ?_); rintro v w2 ⟨rfl, hu2⟩; rw [hb.out])
      | (go_at_call 16; (with_reducible refine (nlive_w _).use ?_); rintro v w3 ⟨rfl, hu3⟩)
      | (with_reducible refine wp_serial (by kernel_rfl) (by kernel_rfl) (by (repeat (first | (with_reducible apply NoBad.then) | (with_reducible apply NoBad.inBlock) | (with_reducible exact NoBad.rets))); done) ?_) | fail)
    all_goals go_returns
    all_goals exact ⟨rfl, (by (repeat (first | (with_reducible exact Upd.refl _ _) | (with_reducible assumption) | (with_reducible apply Upd.drew) | (with_reducible apply Upd.alloc) | (refine Upd0.tr ?_ (by with_reducible assumption)) | (refine Upd.setCell ?_ (fun h => absurd h (by first | exact Nat.lt_irrefl _ | (simp only []; omega))) _))); done)⟩
  have hb := Lib.hid (decide_eq_true hsb)
  have la : a.length ≤ 70000 := by omega
  have lb : b.length ≤ 70000 := by omega
  have ma : a.length ≤ maxLen := by unfold maxLen; omega
  have mb : b.length ≤ maxLen := by unfold maxLen; omega
  cases ca : cutB a with
  | false =>
    have xa := Lib.hid (show checkC a = 1 by rw [checkC, ca]; rfl)
    clear ca
    have tk0 : True := trivial
    go_enter Try.func10, Try.ntmps10
    go_wp2_with (first
      | (go_at_call 15; have _t := tk0; (with_reducible refine (nshort_w a _).use ?_); rintro v w1 ⟨rfl, hu1⟩; rw [ha.out]; clear tk0 _t)
      | (go_at_call 15; (with_reducible refine (nshort_w b _).use ?_); rintro v w2 ⟨rfl, hu2⟩; rw [hb.out])
      | (go_at_call 23; (with_reducible refine (check_any a ma _).use ?_); rintro v w3 ⟨rfl, hu3⟩; rw [xa.out])
      | (go_at_call 16; (with_reducible refine (nlive_w _).use ?_); rintro v w4 ⟨rfl, hu4⟩)
      | (with_reducible refine wp_serial (by kernel_rfl) (by kernel_rfl) (by (repeat (first | (with_reducible apply NoBad.then) | (with_reducible apply NoBad.inBlock) | (with_reducible exact NoBad.rets))); done) ?_) | fail)
    all_goals go_returns
    all_goals exact ⟨rfl, (by (repeat (first | (with_reducible exact Upd.refl _ _) | (with_reducible assumption) | (with_reducible apply Upd.drew) | (with_reducible apply Upd.alloc) | (refine Upd0.tr ?_ (by with_reducible assumption)) | (refine Upd.setCell ?_ (fun h => absurd h (by first | exact Nat.lt_irrefl _ | (simp only []; omega))) _))); done)⟩
  | true =>
    have xa := Lib.hid (show checkC a = 0 by rw [checkC, ca]; rfl)
    cases cb : cutB b with
    | false =>
      have xb := Lib.hid (show checkC b = 1 by rw [checkC, cb]; rfl)
      clear ca cb
      have tk0 : True := trivial
      have tk2 : True := trivial
      go_enter Try.func10, Try.ntmps10
      go_wp2_with (first
        | (go_at_call 15; have _t := tk0; (with_reducible refine (nshort_w a _).use ?_); rintro v w1 ⟨rfl, hu1⟩; rw [ha.out]; clear tk0 _t)
        | (go_at_call 15; (with_reducible refine (nshort_w b _).use ?_); rintro v w2 ⟨rfl, hu2⟩; rw [hb.out])
        | (go_at_call 23; have _t := tk2; (with_reducible refine (check_any a ma _).use ?_); rintro v w3 ⟨rfl, hu3⟩; rw [xa.out]; clear tk2 _t)
        | (go_at_call 23; (with_reducible refine (check_any b mb _).use ?_); rintro v w4 ⟨rfl, hu4⟩; rw [xb.out])
        | (go_at_call 16; (with_reducible refine (nlive_w _).use ?_); rintro v w5 ⟨rfl, hu5⟩)
        | (with_reducible refine wp_serial (by kernel_rfl) (by kernel_rfl) (by (repeat (first | (with_reducible apply NoBad.then) | (with_reducible apply NoBad.inBlock) | (with_reducible exact NoBad.rets))); done) ?_) | fail)
      all_goals go_returns
      all_goals exact ⟨rfl, (by (repeat (first | (with_reducible exact Upd.refl _ _) | (with_reducible assumption) | (with_reducible apply Upd.drew) | (with_reducible apply Upd.alloc) | (refine Upd0.tr ?_ (by with_reducible assumption)) | (refine Upd.setCell ?_ (fun h => absurd h (by first | exact Nat.lt_irrefl _ | (simp only []; omega))) _))); done)⟩
    | true =>
      have xb := Lib.hid (show checkC b = 0 by rw [checkC, cb]; rfl)
      obtain ⟨j1, j2⟩ := joined ca cb
      have na := lab_join (cut_lab ca).2
      have nb := lab_join (cut_lab cb).2
      obtain ⟨K, hK⟩ : ∃ K, cutL a = K := ⟨_, rfl⟩
      obtain ⟨M, hM⟩ : ∃ M, cutL b = M := ⟨_, rfl⟩
      rw [hK, hM] at j1 j2
      rw [hK] at na
      rw [hM] at nb
      have hKh := Lib.hid hK
      have hMh := Lib.hid hM
      obtain ⟨i1, hj, hy0, hy1, hy2⟩ := info_parts info_str
      have hcase : (254 < a.length + b.length ∧ jnC (K ++ M) = 1 ∧ jnS (K ++ M) = []) ∨ (a.length + b.length ≤ 254 ∧ jnC (K ++ M) = 0 ∧ jnS (K ++ M) = a ++ b ∧ undB (a ++ b) b = true) := by
        cases hJ : jnB (K ++ M) with
        | true =>
          have h := j1.1 hJ
          refine .inr ⟨by simpa using h, by rw [jnC, hJ]; rfl, by rw [jnS, hJ, j2]; rfl, joined_und ca cb h⟩
        | false =>
          refine .inl ⟨?_, by rw [jnC, hJ]; rfl, by rw [jnS, hJ]; rfl⟩
          rcases Nat.lt_or_ge 254 (a.length + b.length) with h | h
          · exact h
          · exact absurd (j1.2 (by simpa using h)) (by rw [hJ]; decide)
      clear ca cb j1 j2 hK hM
      rcases hcase with ⟨q1, q2, q3⟩ | ⟨q1, q2, q3, q4⟩
      · have q2h := Lib.hid q2
        have q3h := Lib.hid q3
        clear q2 q3
        have tk0 : True := trivial
        have tk2 : True := trivial
        have tk4 : True := trivial
        have ta : True := trivial
        go_enter Try.func10, Try.ntmps10
        go_wp2_with (first
          | (go_at_call 15; have _t := tk0; (with_reducible refine (nshort_w a _).use ?_); rintro v w1 ⟨rfl, hu1⟩; rw [ha.out]; clear tk0 _t)
          | (go_at_call 15; (with_reducible refine (nshort_w b _).use ?_); rintro v w2 ⟨rfl, hu2⟩; rw [hb.out])
          | (go_at_call 23; have _t := tk2; (with_reducible refine (check_any a ma _).use ?_); rintro v w3 ⟨rfl, hu3⟩; rw [xa.out]; clear tk2 _t)
          | (go_at_call 23; (with_reducible refine (check_any b mb _).use ?_); rintro v w4 ⟨rfl, hu4⟩; rw [xb.out])
          | (go_at_call 30; have _t := tk4; (with_reducible refine (labels_w a la _).use ?_); rintro v w5 ⟨a1, c1, rfl, hr1, hu5⟩; rw [hKh.out] at hr1 ⊢; have r1 := Lib.hid hr1; clear hr1; clear tk4 _t)
          | (go_at_call 30; (with_reducible refine (labels_w b lb _).use ?_); rintro v w6 ⟨a3, c3, rfl, hr3, hu6⟩; rw [hMh.out] at hr3 ⊢; have r3 := Lib.hid hr3; clear hr3)
          | (go_at_call 16; (with_reducible refine (nlive_w _).use ?_); rintro v w7 ⟨rfl, hu7⟩)
          | (at_builtin; have _t := ta; refine wpList_appO (w := w5) (Ext.refl _) rfl (.tmp 27) (.tmp 29) 40 rfl 9 i1 (.string .empty) 1 16 Try.underlying40 hj hy0 hy1 hy2 rfl (by decide) (.slice none 0 0) 0 [] (World.ownsRow_nil _ _ _ _) rfl a1 K.length c1 _ (strs K) rfl r1.out (strs_cells K) (by omega) (by omega) ?_; intro a2 c2 w15 ho2 hv2 hf2; clear ta _t; have hv2' : Upd0 w5 w15 := hv2.mono (fun _ _ h => by cases h); clear hv2; have ho2h : Hid (w15.ownsRow 0 9 1 (.slice a2 K.length c2) K.length (strs K)) := Lib.hid (by simpa using ho2); have hf2h := Lib.hid hf2; clear ho2 hf2)
          | (at_builtin; refine wpList_appO (w := w6) (Ext.refl _) rfl (.tmp 31) (.tmp 33) 40 rfl 9 i1 (.string .empty) 1 16 Try.underlying40 hj hy0 hy1 hy2 rfl (by decide) (.slice a2 K.length c2) K.length (strs K) (ownsRow_upd ho2h.out hu6 (fun _ _ h => h)) rfl a3 M.length c3 _ (strs M) rfl r3.out (strs_cells M) (by omega) (by omega) ?_; intro a4 c4 w16 ho4 hv4 hf4; have hv5 : Upd0 w w16 := Upd.trans (show Upd0 w w6 from (by (repeat (first | (with_reducible exact Upd.refl _ _) | (with_reducible assumption) | (with_reducible apply Upd.drew) | (with_reducible apply Upd.alloc) | (refine Upd0.tr ?_ (by with_reducible assumption)) | (refine Upd.setCell ?_ (fun h => absurd h (by first | exact Nat.lt_irrefl _ | (simp only []; omega))) _))); done)) hv4 (fun q hq hs => absurd hq (by have s1 := hu1.size; have s2 := hu2.size; have s3 := hu3.size; have s4 := hu4.size; have s5 := hu5.size; have := hf2h.out q (by simpa using hs); simp [Value.ownBlock] at this; omega)); have hsr : SR w16 a4 (K ++ M) := own_sr (n := K.length + M.length) (by simpa [strs] using ho4) (by simp); have hjn0 := join_w a4 c4 (K ++ M) w16 hsr (by simp; omega); rw [List.length_append, q2h.out, q3h.out] at hjn0; have hjn := Lib.hid hjn0; clear hjn0 hsr hf4 ho4 hv4)
          | (go_at_call 32; refine hjn.out.use ?_; rintro v w17 ⟨rfl, hu17⟩)
          | (with_reducible refine wp_serial (by kernel_rfl) (by kernel_rfl) (by (repeat (first | (with_reducible apply NoBad.then) | (with_reducible apply NoBad.inBlock) | (with_reducible exact NoBad.rets))); done) ?_) | fail)
        all_goals go_returns
        all_goals exact ⟨rfl, (by (repeat (first | (with_reducible exact Upd.refl _ _) | (with_reducible assumption) | (with_reducible apply Upd.drew) | (with_reducible apply Upd.alloc) | (refine Upd0.tr ?_ (by with_reducible assumption)) | (refine Upd.setCell ?_ (fun h => absurd h (by first | exact Nat.lt_irrefl _ | (simp only []; omega))) _))); done)⟩
      · have q2h := Lib.hid q2
        have q3h := Lib.hid q3
        have q4h := Lib.hid q4
        clear q2 q3 q4
        have tk0 : True := trivial
        have tk2 : True := trivial
        have tk4 : True := trivial
        have ta : True := trivial
        go_enter Try.func10, Try.ntmps10
        go_wp2_with (first
          | (go_at_call 15; have _t := tk0; (with_reducible refine (nshort_w a _).use ?_); rintro v w1 ⟨rfl, hu1⟩; rw [ha.out]; clear tk0 _t)
          | (go_at_call 15; (with_reducible refine (nshort_w b _).use ?_); rintro v w2 ⟨rfl, hu2⟩; rw [hb.out])
          | (go_at_call 23; have _t := tk2; (with_reducible refine (check_any a ma _).use ?_); rintro v w3 ⟨rfl, hu3⟩; rw [xa.out]; clear tk2 _t)
          | (go_at_call 23; (with_reducible refine (check_any b mb _).use ?_); rintro v w4 ⟨rfl, hu4⟩; rw [xb.out])
          | (go_at_call 30; have _t := tk4; (with_reducible refine (labels_w a la _).use ?_); rintro v w5 ⟨a1, c1, rfl, hr1, hu5⟩; rw [hKh.out] at hr1 ⊢; have r1 := Lib.hid hr1; clear hr1; clear tk4 _t)
          | (go_at_call 30; (with_reducible refine (labels_w b lb _).use ?_); rintro v w6 ⟨a3, c3, rfl, hr3, hu6⟩; rw [hMh.out] at hr3 ⊢; have r3 := Lib.hid hr3; clear hr3)
          | (go_at_call 22; (with_reducible refine (under_w (a ++ b) b (by simp; omega) lb _).use ?_); rintro v w7 ⟨rfl, hu7⟩; rw [q4h.out])
          | (go_at_call 16; (with_reducible refine (nlive_w _).use ?_); rintro v w8 ⟨rfl, hu8⟩)
          | (at_builtin; have _t := ta; refine wpList_appO (w := w5) (Ext.refl _) rfl (.tmp 27) (.tmp 29) 40 rfl 9 i1 (.string .empty) 1 16 Try.underlying40 hj hy0 hy1 hy2 rfl (by decide) (.slice none 0 0) 0 [] (World.ownsRow_nil _ _ _ _) rfl a1 K.length c1 _ (strs K) rfl r1.out (strs_cells K) (by omega) (by omega) ?_; intro a2 c2 w15 ho2 hv2 hf2; clear ta _t; have hv2' : Upd0 w5 w15 := hv2.mono (fun _ _ h => by cases h); clear hv2; have ho2h : Hid (w15.ownsRow 0 9 1 (.slice a2 K.length c2) K.length (strs K)) := Lib.hid (by simpa using ho2); have hf2h := Lib.hid hf2; clear ho2 hf2)
          | (at_builtin; refine wpList_appO (w := w6) (Ext.refl _) rfl (.tmp 31) (.tmp 33) 40 rfl 9 i1 (.string .empty) 1 16 Try.underlying40 hj hy0 hy1 hy2 rfl (by decide) (.slice a2 K.length c2) K.length (strs K) (ownsRow_upd ho2h.out hu6 (fun _ _ h => h)) rfl a3 M.length c3 _ (strs M) rfl r3.out (strs_cells M) (by omega) (by omega) ?_; intro a4 c4 w16 ho4 hv4 hf4; have hv5 : Upd0 w w16 := Upd.trans (show Upd0 w w6 from (by (repeat (first | (with_reducible exact Upd.refl _ _) | (with_reducible assumption) | (with_reducible apply Upd.drew) | (with_reducible apply Upd.alloc) | (refine Upd0.tr ?_ (by with_reducible assumption)) | (refine Upd.setCell ?_ (fun h => absurd h (by first | exact Nat.lt_irrefl _ | (simp only []; omega))) _))); done)) hv4 (fun q hq hs => absurd hq (by have s1 := hu1.size; have s2 := hu2.size; have s3 := hu3.size; have s4 := hu4.size; have s5 := hu5.size; have := hf2h.out q (by simpa using hs); simp [Value.ownBlock] at this; omega)); have hsr : SR w16 a4 (K ++ M) := own_sr (n := K.length + M.length) (by simpa [strs] using ho4) (by simp); have hjn0 := join_w a4 c4 (K ++ M) w16 hsr (by simp; omega); rw [List.length_append, q2h.out, q3h.out] at hjn0; have hjn := Lib.hid hjn0; clear hjn0 hsr hf4 ho4 hv4)
          | (go_at_call 32; refine hjn.out.use ?_; rintro v w17 ⟨rfl, hu17⟩)
          | (with_reducible refine wp_serial (by kernel_rfl) (by kernel_rfl) (by (repeat (first | (with_reducible apply NoBad.then) | (with_reducible apply NoBad.inBlock) | (with_reducible exact NoBad.rets))); done) ?_) | fail)
        all_goals go_returns
        all_goals exact ⟨rfl, (by (repeat (first | (with_reducible exact Upd.refl _ _) | (with_reducible assumption) | (with_reducible apply Upd.drew) | (with_reducible apply Upd.alloc) | (refine Upd0.tr ?_ (by with_reducible assumption)) | (refine Upd.setCell ?_ (fun h => absurd h (by first | exact Nat.lt_irrefl _ | (simp only []; omega))) _))); done)⟩
end Go.Proofs.Ytdjleplefbmjbaa
