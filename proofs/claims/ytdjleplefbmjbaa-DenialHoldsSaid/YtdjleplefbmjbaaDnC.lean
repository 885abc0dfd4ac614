/-
  Stores of denials in memory; New, Time, Len, Drop.
-/
import Derived.Test.YtdjleplefbmjbaaDnB
namespace Go.Proofs.Ytdjleplefbmjbaa
open Go.RowKit
set_option linter.unusedSimpArgs false
set_option linter.unusedVariables false
variable {B : Nat}
structure StoIs (B : Nat) (w : World) (t : Nat) (room most : Int) (es : List Ent) (v : Value) : Prop where
  blk : w.heap[t]? = some (.cells #[.int .i64 room, .int .i64 most, v] 93 (0, 0))
  row : OffR w 100 8 v es.length (ens es)
  lo : B ≤ t ∧ ∀ b, v.ownBlock = some b → B ≤ b
structure StoOk (room most : Int) (es : List Ent) : Prop where
  r1 : 1 ≤ room
  r2 : room ≤ 200
  m1 : 1 ≤ most
  m2 : most ≤ 2147483647
  len : (es.length : Int) ≤ room
def Sto (B : Nat) (w : World) (t : Nat) (room most : Int) (es : List Ent) : Prop := StoOk room most es ∧ ∃ v, StoIs B w t room most es v
def kindS : Option Obj → Bool
  | some (.cells _ t _) => decide (t = 93) || decide (t = 100)
  | _ => false
def UpdS (B : Nat) (w w' : World) : Prop := Upd (fun b => B ≤ b ∧ kindS w.heap[b]? = true) w w'
theorem UpdS.of0 {w w' : World} (h : Upd0 w w') : UpdS B w w' := h.mono (fun _ _ h => h.elim)
theorem UpdS.tr {w w' w'' : World} (h : UpdS B w w') (k : UpdS B w' w'') : UpdS B w w'' := by
  refine Upd.trans h k fun n hn hs => ?_
  by_cases he : kindS w.heap[n]? = true
  · exact ⟨hs.1, he⟩
  · have := h.keep n hn (fun h => he h.2)
    rw [this] at hs
    exact hs
theorem UpdS.fin {w0 w w' : World} (h : Upd0 w0 w) (k : UpdS w0.heap.size w w') : Upd0 w0 w' := Upd.trans h k fun n hn hs => by have := hs.1; omega
theorem UpdS.other {w w' : World} (h : UpdS B w w') {n : Nat} {c : Array Value} {T : TypeId} {f : Nat × Nat} (hb : w.heap[n]? = some (.cells c T f)) (hT : (decide (T = 93) || decide (T = 100)) = false) : w'.heap[n]? = some (.cells c T f) :=
  h.block (fun hs => by have := hs.2; rw [hb] at this; simp only [kindS] at this; rw [hT] at this; cases this) hb
theorem StoIs.ne {w : World} {t : Nat} {room most : Int} {es : List Ent} {v : Value} (h : StoIs B w t room most es v) : v.ownBlock ≠ some t := fun e => by
  obtain ⟨cur, hc⟩ := h.row.kind e
  rw [h.blk] at hc
  cases hc
theorem StoIs.to0 {w w' : World} {t : Nat} {room most : Int} {es : List Ent} {v : Value} (h : StoIs B w t room most es v) (k : Upd0 w w') : StoIs B w' t room most es v := ⟨k.block (fun h => h) h.blk, h.row.upd0 k, h.lo⟩
theorem Sto.to0 {w w' : World} {t : Nat} {room most : Int} {es : List Ent} (h : Sto B w t room most es) (k : Upd0 w w') : Sto B w' t room most es := by
  obtain ⟨h1, v, h2⟩ := h
  exact ⟨h1, v, h2.to0 k⟩
/-- the entries are now those of another slice -/
theorem StoIs.put {w w1 : World} {t : Nat} {room most : Int} {es es' : List Ent} {v v' : Value} (h : StoIs B w t room most es v) (hu : Upd (fun k => v.ownBlock = some k) w w1) (hr : OffR w1 100 8 v' es'.length (ens es')) (hf : ∀ k, v'.ownBlock = some k → v.ownBlock = some k ∨ w.heap.size ≤ k) :
    StoIs B (w1.setCell ⟨t, 2, none⟩ v') t room most es' v' ∧ UpdS B w (w1.setCell ⟨t, 2, none⟩ v') := by
  have hlt := blk_lt h.blk
  have hv't : v'.ownBlock ≠ some t := fun e => by
    rcases hf t e with e | e
    · exact h.ne e
    · omega
  have hset : Upd (fun n => n = t) w1 (w1.setCell ⟨t, 2, none⟩ v') := (Upd.refl (fun n => n = t) w1).setCell (p := ⟨t, 2, none⟩) (fun _ => rfl) _
  refine ⟨⟨by simpa using blk_set (hu.block (fun e => h.ne e) h.blk) 2 v', hr.upd hset (fun g hg e => hv't (by rw [hg, e])), h.lo.1, fun b hb => ?_⟩, ?_⟩
  · rcases hf b hb with e | e
    · exact h.lo.2 b e
    · have := h.lo.1; omega
  · refine Upd.setCell (S := fun b => B ≤ b ∧ kindS w.heap[b]? = true) (hu.mono fun k _ hk => ⟨h.lo.2 k hk, ?_⟩) (fun _ => ⟨h.lo.1, by rw [h.blk]; rfl⟩) _
    obtain ⟨cur, hc⟩ := h.row.kind hk
    rw [hc]; rfl
theorem cell3s {w : World} {b : Nat} {a0 a1 a2 : Value} {t : TypeId} (h : w.heap[b]? = some (.cells #[a0, a1, a2] t (0, 0))) : w.cell? ⟨b, 0, none⟩ = some a0 ∧ w.cell? ⟨b, 1, none⟩ = some a1 ∧ w.cell? ⟨b, 2, none⟩ = some a2 ∧ ∀ i, w.frozen? ⟨b, i, none⟩ = false := ⟨by rw [blk_cell h]; rfl, by rw [blk_cell h]; rfl, by rw [blk_cell h]; rfl, fun i => blk_frz h i⟩
theorem dwithin_w (n a b : Int) (w : World) : Calls Try.prog 59 #[.int .i64 n, .int .i64 a, .int .i64 b] w (Rets fun v w' => v = .bool (decide (a ≤ n) && decide (n ≤ b)) ∧ w = w') := by
  go_enter Try.func59, Try.ntmps59
  go_wp2
  all_goals go_ret
  · have h : a ≤ n := by assumption
    exact ⟨by simp [h], rfl⟩
  · have h : n < a := by assumption
    exact ⟨by simp; omega, rfl⟩
theorem dnew_no (r m : Int) (hb : ((decide (1 ≤ r) && decide (r ≤ 200)) && (decide (1 ≤ m) && decide (m ≤ 2147483647))) = false) (w : World) : Calls Try.prog 36 #[.int .i64 r, .int .i64 m] w (Rets fun v w' => v = .tuple #[.pointer none, .int .i64 1] ∧ Upd0 w w') := by
  have hd : (decide (1 ≤ r) && decide (r ≤ 200)) = false ∨ ((decide (1 ≤ r) && decide (r ≤ 200)) = true ∧ (decide (1 ≤ m) && decide (m ≤ 2147483647)) = false) := by
    cases h : (decide (1 ≤ r) && decide (r ≤ 200))
    · exact .inl rfl
    · exact .inr ⟨rfl, by rw [h, Bool.true_and] at hb; exact hb⟩
  clear hb
  have tk0 : True := trivial
  rcases hd with e1 | ⟨e1, e2⟩
  · have e1 := Lib.hid e1
    go_enter Try.func36, Try.ntmps36
    go_wp2_with (first
      | (go_at_call 59; (with_reducible refine (dwithin_w r 1 200 _).use ?_); rintro v w1 ⟨rfl, rfl⟩; rw [e1.out])
      | (with_reducible refine wp_serial (by kernel_rfl) (by kernel_rfl) (by (repeat (first | (with_reducible apply NoBad.then) | (with_reducible apply NoBad.inBlock) | (with_reducible exact NoBad.rets))); done) ?_) | fail)
    all_goals go_returns
    all_goals exact ⟨rfl, (by (repeat (first | (with_reducible exact Upd.refl _ _) | (with_reducible assumption) | (with_reducible apply Upd.drew) | (with_reducible apply Upd.alloc) | (refine Upd0.tr ?_ (by with_reducible assumption)) | (refine Upd.setCell ?_ (fun h => absurd h (by first | exact Nat.lt_irrefl _ | (simp only []; omega))) _))); done)⟩
  · have e1 := Lib.hid e1
    have e2 := Lib.hid e2
    go_enter Try.func36, Try.ntmps36
    go_wp2_with (first
      | (go_at_call 59; have _t := tk0; (with_reducible refine (dwithin_w r 1 200 _).use ?_); rintro v w1 ⟨rfl, rfl⟩; rw [e1.out]; clear tk0 _t)
      | (go_at_call 59; (with_reducible refine (dwithin_w m 1 2147483647 _).use ?_); rintro v w1 ⟨rfl, rfl⟩; rw [e2.out])
      | (with_reducible refine wp_serial (by kernel_rfl) (by kernel_rfl) (by (repeat (first | (with_reducible apply NoBad.then) | (with_reducible apply NoBad.inBlock) | (with_reducible exact NoBad.rets))); done) ?_) | fail)
    all_goals go_returns
    all_goals exact ⟨rfl, (by (repeat (first | (with_reducible exact Upd.refl _ _) | (with_reducible assumption) | (with_reducible apply Upd.drew) | (with_reducible apply Upd.alloc) | (refine Upd0.tr ?_ (by with_reducible assumption)) | (refine Upd.setCell ?_ (fun h => absurd h (by first | exact Nat.lt_irrefl _ | (simp only []; omega))) _))); done)⟩
theorem dnew_w (r m : Int) (r1 : 1 ≤ r) (r2 : r ≤ 200) (m1 : 1 ≤ m) (m2 : m ≤ 2147483647) (w : World) (hB : B ≤ w.heap.size) : Calls Try.prog 36 #[.int .i64 r, .int .i64 m] w (Rets fun v w' => ∃ t, v = .tuple #[.pointer (some ⟨t, 0, none⟩), .int .i64 0] ∧ Upd0 w w' ∧ Sto B w' t r m []) := by
  have e1 := Lib.hid (show (decide (1 ≤ r) && decide (r ≤ 200)) = true by simp; omega)
  have e2 := Lib.hid (show (decide (1 ≤ m) && decide (m ≤ 2147483647)) = true by simp; omega)
  have tk0 : True := trivial
  have hok : StoOk r m [] := ⟨r1, r2, m1, m2, by simp; omega⟩
  go_enter Try.func36, Try.ntmps36
  go_wp2_with (first
    | (go_at_call 59; have _t := tk0; (with_reducible refine (dwithin_w r 1 200 _).use ?_); rintro v w1 ⟨rfl, rfl⟩; rw [e1.out]; clear tk0 _t)
    | (go_at_call 59; (with_reducible refine (dwithin_w m 1 2147483647 _).use ?_); rintro v w1 ⟨rfl, rfl⟩; rw [e2.out])
    | (with_reducible refine wp_serial (by kernel_rfl) (by kernel_rfl) (by (repeat (first | (with_reducible apply NoBad.then) | (with_reducible apply NoBad.inBlock) | (with_reducible exact NoBad.rets))); done) ?_) | fail)
  all_goals go_returns
  exact ⟨_, rfl, (by (repeat (first | (with_reducible exact Upd.refl _ _) | (with_reducible assumption) | (with_reducible apply Upd.drew) | (with_reducible apply Upd.alloc) | (refine Upd0.tr ?_ (by with_reducible assumption)) | (refine Upd.setCell ?_ (fun h => absurd h (by first | exact Nat.lt_irrefl _ | (simp only []; omega))) _))); done), hok, .slice none 0 0, alloc_last _ _ _ rfl, OffR.nil _ _ _, hB, by simp [Value.ownBlock]⟩
structure Rc where
  nm : Bs
  ty : Int
  tl : Int
  d : Bs
def timeB (r : Rc) : Bool := decide (r.ty = 6) && decide (recC r.nm r.ty r.tl r.d = 0)
def timeN (r : Rc) : Int := if timeB r then min r.tl (psV r.d).mi else 0
def timeC (r : Rc) : Int := if timeB r then 0 else 1
theorem timeN_bound (r : Rc) : 0 ≤ timeN r ∧ timeN r ≤ 2147483647 := by
  unfold timeN
  split
  · rename_i h
    simp only [timeB, Bool.and_eq_true, decide_eq_true_eq] at h
    have h2 := h.2
    unfold recC at h2
    split at h2
    · rename_i hk
      have := ttl_yes hk.2.1
      have hmi : 0 ≤ (psV r.d).mi := by
        unfold psV
        split
        · simp only [psS]; omega
        · simp [soZ]
      omega
    · omega
  · omega
theorem recC_or (s : Bs) (k t : Int) (d : Bs) : recC s k t d = 0 ∨ recC s k t d = 1 := by
  unfold recC
  split
  · exact checkC_or s
  · exact .inr rfl
set_option maxRecDepth 100000 in
theorem time_w (nm : Bs) (ty tl : Int) (d : Bs) (hn : nm.length ≤ 70000) (hd : d.length ≤ 70000) (w : World) : Calls Try.prog 41 #[.agg #[.string ⟨nm.toArray⟩, .int .i64 ty, .int .i64 tl, .string ⟨d.toArray⟩]] w (Rets fun r w' => r = .tuple #[.int .i64 (timeN ⟨nm, ty, tl, d⟩), .int .i64 (timeC ⟨nm, ty, tl, d⟩)] ∧ Upd0 w w') := by
  by_cases h6 : ty = 6
  · subst h6
    rcases recC_or nm 6 tl d with hc | hc
    · have e1 := Lib.hid (show timeN ⟨nm, 6, tl, d⟩ = min tl (psV d).mi by simp [timeN, timeB, hc])
      have e2 := Lib.hid (show timeC ⟨nm, 6, tl, d⟩ = 0 by simp [timeC, timeB, hc])
      have hch := Lib.hid hc
      clear hc
      obtain ⟨S, hS⟩ : ∃ S, psV d = S := ⟨_, rfl⟩
      rw [hS] at e1
      have hSh := Lib.hid hS
      clear hS
      obtain ⟨s1, s2, s3, s4, s5, s6, s7⟩ := S
      simp only [] at e1
      go_enter Try.func41, Try.ntmps41
      go_wp2_with (first
        | (go_at_call 64; (with_reducible refine (recCheck_w nm 6 tl d hn hd _).use ?_); rintro v w1 ⟨rfl, hu1⟩; rw [hch.out]; obtain ⟨a0, a1, a2, a3, a4⟩ := four (hu1.block (fun h => h) (alloc_last _ _ w.heap.size rfl)); have b1 := Lib.hid (hu1.block (fun h => h) (alloc_last _ _ w.heap.size rfl)))
        | (go_at_call 65; (with_reducible refine (parseSoa_w d hd _).use ?_); rintro v w2 ⟨rfl, hu2⟩; rw [hSh.out]; simp only [So.val]; obtain ⟨c0, c1, c2, c3, c4⟩ := four (hu2.block (fun h => h) b1.out); have hwl : w.heap.size < w2.heap.size := blk_lt (hu2.block (fun h => h) b1.out))
        | (with_reducible refine wp_serial (by kernel_rfl) (by kernel_rfl) (by (repeat (first | (with_reducible apply NoBad.then) | (with_reducible apply NoBad.inBlock) | (with_reducible exact NoBad.rets))); done) ?_) | fail)
      all_goals go_returns
      all_goals exact ⟨by rw [e1.out, e2.out]; rfl, (by (repeat (first | (with_reducible exact Upd.refl _ _) | (with_reducible assumption) | (with_reducible apply Upd.drew) | (with_reducible apply Upd.alloc) | (refine Upd0.tr ?_ (by with_reducible assumption)) | (refine Upd.setCell ?_ (fun h => absurd h (by first | exact Nat.lt_irrefl _ | (simp only []; omega))) _))); done)⟩
    · have e1 := Lib.hid (show timeN ⟨nm, 6, tl, d⟩ = 0 by simp [timeN, timeB, hc])
      have e2 := Lib.hid (show timeC ⟨nm, 6, tl, d⟩ = 1 by simp [timeC, timeB, hc])
      have hch := Lib.hid hc
      clear hc
      go_enter Try.func41, Try.ntmps41
      go_wp2_with (first
        | (go_at_call 64; (with_reducible refine (recCheck_w nm 6 tl d hn hd _).use ?_); rintro v w1 ⟨rfl, hu1⟩; rw [hch.out])
        | (with_reducible refine wp_serial (by kernel_rfl) (by kernel_rfl) (by (repeat (first | (with_reducible apply NoBad.then) | (with_reducible apply NoBad.inBlock) | (with_reducible exact NoBad.rets))); done) ?_) | fail)
      all_goals go_returns
      all_goals exact ⟨by rw [e1.out, e2.out]; rfl, (by (repeat (first | (with_reducible exact Upd.refl _ _) | (with_reducible assumption) | (with_reducible apply Upd.drew) | (with_reducible apply Upd.alloc) | (refine Upd0.tr ?_ (by with_reducible assumption)) | (refine Upd.setCell ?_ (fun h => absurd h (by first | exact Nat.lt_irrefl _ | (simp only []; omega))) _))); done)⟩
  · have e1 := Lib.hid (show timeN ⟨nm, ty, tl, d⟩ = 0 by simp [timeN, timeB, h6])
    have e2 := Lib.hid (show timeC ⟨nm, ty, tl, d⟩ = 1 by simp [timeC, timeB, h6])
    go_enter Try.func41, Try.ntmps41
    go_wp2_with (first | (with_reducible refine wp_serial (by kernel_rfl) (by kernel_rfl) (by (repeat (first | (with_reducible apply NoBad.then) | (with_reducible apply NoBad.inBlock) | (with_reducible exact NoBad.rets))); done) ?_) | fail)
    all_goals go_returns
    all_goals exact ⟨by rw [e1.out, e2.out]; rfl, (by (repeat (first | (with_reducible exact Upd.refl _ _) | (with_reducible assumption) | (with_reducible apply Upd.drew) | (with_reducible apply Upd.alloc) | (refine Upd0.tr ?_ (by with_reducible assumption)) | (refine Upd.setCell ?_ (fun h => absurd h (by first | exact Nat.lt_irrefl _ | (simp only []; omega))) _))); done)⟩
theorem dlen_nil (w : World) : Calls Try.prog 40 #[.pointer none] w (Rets fun r w' => r = .int .i64 0 ∧ Upd0 w w') := by
  go_enter Try.func40, Try.ntmps40
  go_wp2_with (first | (with_reducible refine wp_serial (by kernel_rfl) (by kernel_rfl) (by (repeat (first | (with_reducible apply NoBad.then) | (with_reducible apply NoBad.inBlock) | (with_reducible exact NoBad.rets))); done) ?_) | fail)
  all_goals go_returns
  all_goals exact ⟨rfl, (by (repeat (first | (with_reducible exact Upd.refl _ _) | (with_reducible assumption) | (with_reducible apply Upd.drew) | (with_reducible apply Upd.alloc) | (refine Upd0.tr ?_ (by with_reducible assumption)) | (refine Upd.setCell ?_ (fun h => absurd h (by first | exact Nat.lt_irrefl _ | (simp only []; omega))) _))); done)⟩
theorem dlen_w (t : Nat) (room most : Int) (es : List Ent) (w : World) (h : Sto B w t room most es) : Calls Try.prog 40 #[.pointer (some ⟨t, 0, none⟩)] w (Rets fun r w' => r = .int .i64 es.length ∧ Upd0 w w') := by
  obtain ⟨hs, v, hc⟩ := h
  obtain ⟨ao, cap, rfl⟩ := hc.row.slice
  obtain ⟨c0, c1, c2, c3⟩ := cell3s hc.blk
  clear hc
  go_enter Try.func40, Try.ntmps40
  go_wp2_with (first | (with_reducible refine wp_serial (by kernel_rfl) (by kernel_rfl) (by (repeat (first | (with_reducible apply NoBad.then) | (with_reducible apply NoBad.inBlock) | (with_reducible exact NoBad.rets))); done) ?_) | fail)
  all_goals go_returns
  all_goals exact ⟨rfl, (by (repeat (first | (with_reducible exact Upd.refl _ _) | (with_reducible assumption) | (with_reducible apply Upd.drew) | (with_reducible apply Upd.alloc) | (refine Upd0.tr ?_ (by with_reducible assumption)) | (refine Upd.setCell ?_ (fun h => absurd h (by first | exact Nat.lt_irrefl _ | (simp only []; omega))) _))); done)⟩
theorem ddrop_nil (n : Value) (w : World) : Calls Try.prog 39 #[.pointer none, n] w (Rets fun r w' => r = .int .i64 0 ∧ Upd0 w w') := by
  go_enter Try.func39, Try.ntmps39
  go_wp2_with (first | (with_reducible refine wp_serial (by kernel_rfl) (by kernel_rfl) (by (repeat (first | (with_reducible apply NoBad.then) | (with_reducible apply NoBad.inBlock) | (with_reducible exact NoBad.rets))); done) ?_) | fail)
  all_goals go_returns
  all_goals exact ⟨rfl, (by (repeat (first | (with_reducible exact Upd.refl _ _) | (with_reducible assumption) | (with_reducible apply Upd.drew) | (with_reducible apply Upd.alloc) | (refine Upd0.tr ?_ (by with_reducible assumption)) | (refine Upd.setCell ?_ (fun h => absurd h (by first | exact Nat.lt_irrefl _ | (simp only []; omega))) _))); done)⟩
set_option maxRecDepth 100000 in
theorem ddrop_w (t : Nat) (room most : Int) (es : List Ent) (n : Bs) (hn : n.length ≤ 70000) (w : World) (h : Sto B w t room most es) : Calls Try.prog 39 #[.pointer (some ⟨t, 0, none⟩), .string ⟨n.toArray⟩] w (Rets fun r w' =>
    r = .int .i64 ((es.length : Int) - (es.filter fun x => !delD (fold n) x).length) ∧ UpdS B w w' ∧ Sto B w' t room most (es.filter fun x => !delD (fold n) x)) := by
  obtain ⟨hs, v, hc⟩ := h
  have hfl := List.length_filter_le (fun x => !delD (fold n) x) es
  have hel : es.length ≤ 200 := by have := hs.len; have := hs.r2; omega
  obtain ⟨F, hF⟩ : ∃ F, fold n = F := ⟨_, rfl⟩
  rw [hF] at hfl ⊢
  have hFh := Lib.hid hF
  have hok : StoOk room most (es.filter fun x => !delD F x) := ⟨hs.r1, hs.r2, hs.m1, hs.m2, by have := hs.len; omega⟩
  obtain ⟨ao, cap, rfl⟩ := hc.row.slice
  obtain ⟨c0, c1, c2, c3⟩ := cell3s hc.blk
  have htl := blk_lt hc.blk
  have hch := Lib.hid hc
  clear hc hF
  go_enter Try.func39, Try.ntmps39
  go_wp2_with (first
    | (go_at_call 24; (with_reducible refine (fold_w n hn _).use ?_); rintro v w1 ⟨rfl, hu1⟩; rw [hFh.out]; have b1 := Lib.hid (hu1.block (fun h => h) (alloc_last _ _ w.heap.size rfl)); have hv1 : Upd0 w w1 := (by (repeat (first | (with_reducible exact Upd.refl _ _) | (with_reducible assumption) | (with_reducible apply Upd.drew) | (with_reducible apply Upd.alloc) | (refine Upd0.tr ?_ (by with_reducible assumption)) | (refine Upd.setCell ?_ (fun h => absurd h (by first | exact Nat.lt_irrefl _ | (simp only []; omega))) _))); done); obtain ⟨d0, d1⟩ := (show w1.cell? ⟨w.heap.size, 0, none⟩ = some (.string ⟨n.toArray⟩) ∧ w1.frozen? ⟨w.heap.size, 0, none⟩ = false from ⟨by rw [blk_cell b1.out]; rfl, blk_frz b1.out 0⟩); obtain ⟨e0, e1, e2, e3⟩ := cell3s (hv1.block (fun h => h) (hch.out.blk)); have hv1h := Lib.hid hv1; clear hv1)
    | (go_at_call 61; refine (deleteD_w es (by omega) _ w.heap.size F _ ((hch.out.to0 (Upd.setCell hv1h.out (fun h => absurd h (by simp only []; omega)) _)).row) (by simpa using blk_set b1.out 0 (.string ⟨F.toArray⟩))).use ?_; rintro v w2 hD; obtain ⟨hr2, hu2, hf2⟩ := hD; obtain ⟨ao2, cap2, rfl⟩ := hr2.slice; obtain ⟨f0, f1, f2, f3⟩ := cell3s (hu2.block (fun e => hch.out.ne e) ((hch.out.to0 (Upd.setCell hv1h.out (fun h => absurd h (by simp only []; omega)) _)).blk)); have hr2h := Lib.hid hr2; have hu2h := Lib.hid hu2; have hf2h := Lib.hid hf2; clear hr2 hu2 hf2)
    | (with_reducible refine wp_serial (by kernel_rfl) (by kernel_rfl) (by (repeat (first | (with_reducible apply NoBad.then) | (with_reducible apply NoBad.inBlock) | (with_reducible exact NoBad.rets))); done) ?_) | fail)
  all_goals go_returns
  obtain ⟨a1, a2⟩ := (hch.out.to0 (Upd.setCell hv1h.out (fun h => absurd h (by simp only []; omega)) (.string ⟨F.toArray⟩))).put hu2h.out hr2h.out (fun k hk => .inl (hf2h.out k hk))
  exact ⟨rfl, (UpdS.of0 (Upd.setCell hv1h.out (fun h => absurd h (by simp only []; omega)) _)).tr a2, hok, _, a1⟩
end Go.Proofs.Ytdjleplefbmjbaa
