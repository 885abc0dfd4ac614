/-
  Stores of denials: Put.
-/
import Derived.Test.YtdjleplefbmjbaaDnC
import Derived.Test.YtdjleplefbmjbaaSer6
import Derived.Deep.CutRange
import Derived.Deep.CutBlock
namespace Go.Proofs.Ytdjleplefbmjbaa
open Go.RowKit
set_option linter.unusedSimpArgs false
set_option linter.unusedVariables false
variable {B : Nat}
def putOk (q : Bs) (ty k now : Int) : Bool := cutB q && ((decide (1 ≤ ty) && decide (ty ≤ 65535)) && ((decide (1 ≤ k) && decide (k ≤ 2)) && (decide (0 ≤ now) && decide (now ≤ 1099511627776))))
def pkOf (ty k : Int) : Int := if k = 2 then 0 else ty
def newE (most : Int) (q : Bs) (ty k : Int) (r : Rc) (now : Int) : Ent := ⟨fold q, pkOf ty k, k, r.nm, r.ty, r.tl, r.d, now + min (timeN r) most⟩
def lastN (room : Int) (l : List Ent) : List Ent := l.drop (l.length - room.toNat)
def putZ (room most : Int) (es : List Ent) (q : Bs) (ty k : Int) (r : Rc) (now : Int) : List Ent :=
  if timeN r = 0 then es.filter fun x => !delP (fold q) (pkOf ty k) x else lastN room ((es.filter fun x => !delP (fold q) (pkOf ty k) x) ++ [newE most q ty k r now])
def put (room most : Int) (es : List Ent) (q : Bs) (ty k : Int) (r : Rc) (now : Int) : Int × List Ent :=
  if timeB r && putOk q ty k now then (if undB q r.nm then (0, putZ room most es q ty k r now) else (9, es)) else (1, es)
theorem four' {w : World} {b : Nat} {a0 a1 a2 a3 : Value} {t : TypeId} (h : w.heap[b]? = some (.cells #[a0, a1, a2, a3] t (0, 0))) : w.cell? ⟨b, 0, none⟩ = some a0 ∧ w.cell? ⟨b, 1, none⟩ = some a1 ∧ w.cell? ⟨b, 2, none⟩ = some a2 ∧ w.cell? ⟨b, 3, none⟩ = some a3 := by
  obtain ⟨h0, h1, h2, h3, _⟩ := four h
  exact ⟨h0, h1, h2, h3⟩
theorem own_ne {w : World} {e T : TypeId} {s n : Nat} {v : Value} {xs : List Value} (h : OffR w e s v n xs) {g : Nat} (hv : v.ownBlock = some g) {c : Array Value} {f : Nat × Nat} (hg : w.heap[g]? = some (.cells c T f)) (hne : T ≠ e := by decide) : False := by
  obtain ⟨cur, hc⟩ := h.kind hv
  rw [hg] at hc
  injection hc with hc
  injection hc with _ h2 _
  exact hne h2
theorem cell2s {w : World} {b : Nat} {a0 a1 : Value} {t : TypeId} (h : w.heap[b]? = some (.cells #[a0, a1] t (0, 0))) : w.cell? ⟨b, 0, none⟩ = some a0 ∧ w.cell? ⟨b, 1, none⟩ = some a1 ∧ ∀ i, w.frozen? ⟨b, i, none⟩ = false := ⟨by rw [blk_cell h]; rfl, by rw [blk_cell h]; rfl, fun i => blk_frz h i⟩
theorem alloc_at {w W : World} (o : Obj) {n : Nat} (hW : W.heap = (w.alloc o).heap) (h : n = w.heap.size) : W.heap[n]? = some o := by rw [hW]; exact alloc_last w o n h
set_option maxRecDepth 100000 in
set_option maxHeartbeats 2000000 in
/-- what may not be -/
theorem put_bad (p : Option Addr) (q : Bs) (ty k : Int) (nm : Bs) (rt tl : Int) (d : Bs) (now : Int) (hq : q.length ≤ 70000) (hn : nm.length ≤ 70000) (hd : d.length ≤ 70000) (hb : p = none ∨ (timeB ⟨nm, rt, tl, d⟩ && putOk q ty k now) = false) (w : World) :
    Calls Try.prog 38 #[.pointer p, .agg #[.string ⟨q.toArray⟩, .int .i64 ty], .int .i64 k, .agg #[.string ⟨nm.toArray⟩, .int .i64 rt, .int .i64 tl, .string ⟨d.toArray⟩], .int .i64 now] w (Rets fun r w' => r = .int .i64 1 ∧ Upd0 w w') := by
  have hqm : q.length ≤ maxLen := by unfold maxLen; omega
  have tk1 : True := trivial
  have tk2 : True := trivial
  cases p with
  | none =>
    go_enter Try.func38, Try.ntmps38
    go_wp2_with (first
      | (go_at_call 41; (with_reducible refine (time_w nm rt tl d hn hd _).use ?_); rintro v w1 ⟨rfl, hu1⟩)
      | (with_reducible refine wp_serial (by kernel_rfl) (by kernel_rfl) (by (repeat (first | (with_reducible apply NoBad.then) | (with_reducible apply NoBad.inBlock) | (with_reducible exact NoBad.rets))); done) ?_) | fail)
    all_goals go_returns
    all_goals exact ⟨rfl, (by (repeat (first | (with_reducible exact Upd.refl _ _) | (with_reducible assumption) | (with_reducible apply Upd.drew) | (with_reducible apply Upd.alloc) | (refine Upd0.tr ?_ (by with_reducible assumption)) | (refine Upd.setCell ?_ (fun h => absurd h (by first | exact Nat.lt_irrefl _ | (simp only []; omega))) _))); done)⟩
  | some a =>
    have hb := hb.resolve_left (by simp)
    cases ht : timeB ⟨nm, rt, tl, d⟩ with
    | false =>
      have hc := Lib.hid (show timeC ⟨nm, rt, tl, d⟩ = 1 by rw [timeC, ht]; rfl)
      clear ht hb
      go_enter Try.func38, Try.ntmps38
      go_wp2_with (first
        | (go_at_call 41; (with_reducible refine (time_w nm rt tl d hn hd _).use ?_); rintro v w1 ⟨rfl, hu1⟩; rw [hc.out])
        | (with_reducible refine wp_serial (by kernel_rfl) (by kernel_rfl) (by (repeat (first | (with_reducible apply NoBad.then) | (with_reducible apply NoBad.inBlock) | (with_reducible exact NoBad.rets))); done) ?_) | fail)
      all_goals go_returns
      all_goals exact ⟨rfl, (by (repeat (first | (with_reducible exact Upd.refl _ _) | (with_reducible assumption) | (with_reducible apply Upd.drew) | (with_reducible apply Upd.alloc) | (refine Upd0.tr ?_ (by with_reducible assumption)) | (refine Upd.setCell ?_ (fun h => absurd h (by first | exact Nat.lt_irrefl _ | (simp only []; omega))) _))); done)⟩
    | true =>
      have hc := Lib.hid (show timeC ⟨nm, rt, tl, d⟩ = 0 by rw [timeC, ht]; rfl)
      rw [ht, Bool.true_and, putOk] at hb
      clear ht
      have hd1 : cutB q = false ∨ (cutB q = true ∧ (decide (1 ≤ ty) && decide (ty ≤ 65535)) = false) ∨ (cutB q = true ∧ (decide (1 ≤ ty) && decide (ty ≤ 65535)) = true ∧ (decide (1 ≤ k) && decide (k ≤ 2)) = false) ∨ (cutB q = true ∧ (decide (1 ≤ ty) && decide (ty ≤ 65535)) = true ∧ (decide (1 ≤ k) && decide (k ≤ 2)) = true ∧ (decide (0 ≤ now) && decide (now ≤ 1099511627776)) = false) := by
        revert hb
        cases cutB q <;> cases (decide (1 ≤ ty) && decide (ty ≤ 65535)) <;> cases (decide (1 ≤ k) && decide (k ≤ 2)) <;> cases (decide (0 ≤ now) && decide (now ≤ 1099511627776)) <;> simp
      clear hb
      rcases hd1 with h1 | ⟨h1, h2⟩ | ⟨h1, h2, h3⟩ | ⟨h1, h2, h3, h4⟩
      · have e1 := Lib.hid (show checkC q = 1 by rw [checkC, h1]; rfl)
        clear h1
        go_enter Try.func38, Try.ntmps38
        go_wp2_with (first
          | (go_at_call 41; (with_reducible refine (time_w nm rt tl d hn hd _).use ?_); rintro v w1 ⟨rfl, hu1⟩; rw [hc.out]; obtain ⟨a0, a1, a2⟩ := cell2s (hu1.block (fun h => h) (blk_alloc (alloc_last w _ w.heap.size rfl))))
          | (go_at_call 23; (with_reducible refine (check_any q hqm _).use ?_); rintro v w2 ⟨rfl, hu2⟩; rw [e1.out])
          | (with_reducible refine wp_serial (by kernel_rfl) (by kernel_rfl) (by (repeat (first | (with_reducible apply NoBad.then) | (with_reducible apply NoBad.inBlock) | (with_reducible exact NoBad.rets))); done) ?_) | fail)
        all_goals go_returns
        all_goals exact ⟨rfl, (by (repeat (first | (with_reducible exact Upd.refl _ _) | (with_reducible assumption) | (with_reducible apply Upd.drew) | (with_reducible apply Upd.alloc) | (refine Upd0.tr ?_ (by with_reducible assumption)) | (refine Upd.setCell ?_ (fun h => absurd h (by first | exact Nat.lt_irrefl _ | (simp only []; omega))) _))); done)⟩
      · have e1 := Lib.hid (show checkC q = 0 by rw [checkC, h1]; rfl)
        have h2 := Lib.hid h2
        clear h1
        go_enter Try.func38, Try.ntmps38
        go_wp2_with (first
          | (go_at_call 41; (with_reducible refine (time_w nm rt tl d hn hd _).use ?_); rintro v w1 ⟨rfl, hu1⟩; rw [hc.out]; have z1 := Lib.hid (hu1.block (fun h => h) (blk_alloc (alloc_last w _ w.heap.size rfl))); obtain ⟨a0, a1, a2⟩ := cell2s z1.out)
          | (go_at_call 23; (with_reducible refine (check_any q hqm _).use ?_); rintro v w2 ⟨rfl, hu2⟩; rw [e1.out]; obtain ⟨c0, c1, c2⟩ := cell2s (hu2.block (fun h => h) z1.out))
          | (go_at_call 59; (with_reducible refine (dwithin_w ty 1 65535 _).use ?_); rintro v w3 ⟨rfl, rfl⟩; rw [h2.out])
          | (with_reducible refine wp_serial (by kernel_rfl) (by kernel_rfl) (by (repeat (first | (with_reducible apply NoBad.then) | (with_reducible apply NoBad.inBlock) | (with_reducible exact NoBad.rets))); done) ?_) | fail)
        all_goals go_returns
        all_goals exact ⟨rfl, (by (repeat (first | (with_reducible exact Upd.refl _ _) | (with_reducible assumption) | (with_reducible apply Upd.drew) | (with_reducible apply Upd.alloc) | (refine Upd0.tr ?_ (by with_reducible assumption)) | (refine Upd.setCell ?_ (fun h => absurd h (by first | exact Nat.lt_irrefl _ | (simp only []; omega))) _))); done)⟩
      · have e1 := Lib.hid (show checkC q = 0 by rw [checkC, h1]; rfl)
        have h2 := Lib.hid h2
        have h3 := Lib.hid h3
        clear h1
        go_enter Try.func38, Try.ntmps38
        go_wp2_with (first
          | (go_at_call 41; (with_reducible refine (time_w nm rt tl d hn hd _).use ?_); rintro v w1 ⟨rfl, hu1⟩; rw [hc.out]; have z1 := Lib.hid (hu1.block (fun h => h) (blk_alloc (alloc_last w _ w.heap.size rfl))); obtain ⟨a0, a1, a2⟩ := cell2s z1.out)
          | (go_at_call 23; (with_reducible refine (check_any q hqm _).use ?_); rintro v w2 ⟨rfl, hu2⟩; rw [e1.out]; obtain ⟨c0, c1, c2⟩ := cell2s (hu2.block (fun h => h) z1.out))
          | (go_at_call 59; have _t := tk1; (with_reducible refine (dwithin_w ty 1 65535 _).use ?_); rintro v w3 ⟨rfl, rfl⟩; rw [h2.out]; clear tk1 _t)
          | (go_at_call 59; (with_reducible refine (dwithin_w k 1 2 _).use ?_); rintro v w3 ⟨rfl, rfl⟩; rw [h3.out])
          | (with_reducible refine wp_serial (by kernel_rfl) (by kernel_rfl) (by (repeat (first | (with_reducible apply NoBad.then) | (with_reducible apply NoBad.inBlock) | (with_reducible exact NoBad.rets))); done) ?_) | fail)
        all_goals go_returns
        all_goals exact ⟨rfl, (by (repeat (first | (with_reducible exact Upd.refl _ _) | (with_reducible assumption) | (with_reducible apply Upd.drew) | (with_reducible apply Upd.alloc) | (refine Upd0.tr ?_ (by with_reducible assumption)) | (refine Upd.setCell ?_ (fun h => absurd h (by first | exact Nat.lt_irrefl _ | (simp only []; omega))) _))); done)⟩
      · have e1 := Lib.hid (show checkC q = 0 by rw [checkC, h1]; rfl)
        have h2 := Lib.hid h2
        have h3 := Lib.hid h3
        have h4 := Lib.hid h4
        clear h1
        go_enter Try.func38, Try.ntmps38
        go_wp2_with (first
          | (go_at_call 41; (with_reducible refine (time_w nm rt tl d hn hd _).use ?_); rintro v w1 ⟨rfl, hu1⟩; rw [hc.out]; have z1 := Lib.hid (hu1.block (fun h => h) (blk_alloc (alloc_last w _ w.heap.size rfl))); obtain ⟨a0, a1, a2⟩ := cell2s z1.out)
          | (go_at_call 23; (with_reducible refine (check_any q hqm _).use ?_); rintro v w2 ⟨rfl, hu2⟩; rw [e1.out]; obtain ⟨c0, c1, c2⟩ := cell2s (hu2.block (fun h => h) z1.out))
          | (go_at_call 59; have _t := tk1; (with_reducible refine (dwithin_w ty 1 65535 _).use ?_); rintro v w3 ⟨rfl, rfl⟩; rw [h2.out]; clear tk1 _t)
          | (go_at_call 59; have _t := tk2; (with_reducible refine (dwithin_w k 1 2 _).use ?_); rintro v w3 ⟨rfl, rfl⟩; rw [h3.out]; clear tk2 _t)
          | (go_at_call 59; (with_reducible refine (dwithin_w now 0 1099511627776 _).use ?_); rintro v w3 ⟨rfl, rfl⟩; rw [h4.out])
          | (with_reducible refine wp_serial (by kernel_rfl) (by kernel_rfl) (by (repeat (first | (with_reducible apply NoBad.then) | (with_reducible apply NoBad.inBlock) | (with_reducible exact NoBad.rets))); done) ?_) | fail)
        all_goals go_returns
        all_goals exact ⟨rfl, (by (repeat (first | (with_reducible exact Upd.refl _ _) | (with_reducible assumption) | (with_reducible apply Upd.drew) | (with_reducible apply Upd.alloc) | (refine Upd0.tr ?_ (by with_reducible assumption)) | (refine Upd.setCell ?_ (fun h => absurd h (by first | exact Nat.lt_irrefl _ | (simp only []; omega))) _))); done)⟩
theorem put_fin {W w7 : World} {t : Nat} {room most : Int} {es1 : List Ent} {v6 : Value} (a1 : StoIs B W t room most es1 v6) (hs : StoOk room most es1) {o : Obj} {g7 off7 cap7 : Nat} {e : Ent} (hu7 : Upd (fun k => v6.ownBlock = some k) ((W.alloc o).drew) w7)
    (hf7 : Fresh ((W.alloc o).drew) v6 (.slice (some ⟨g7, off7, none⟩) (es1.length + 1) cap7)) (hr7 : OffR w7 100 8 (.slice (some ⟨g7, off7, none⟩) (es1.length + 1) cap7) (es1.length + 1) (ens es1 ++ e.cells)) {kk : Nat} (hkk : es1.length + 1 - room.toNat = kk) :
    StoIs B (((w7.setCell ⟨t, 2, none⟩ (.slice (some ⟨g7, off7, none⟩) (es1.length + 1) cap7)).setCell ⟨t, 2, none⟩ (.slice (some ⟨g7, off7 + kk * 8, none⟩) (es1.length + 1 - kk) (cap7 - kk))).drew) t room most (lastN room (es1 ++ [e])) (.slice (some ⟨g7, off7 + kk * 8, none⟩) (es1.length + 1 - kk) (cap7 - kk)) ∧
    UpdS B W (((w7.setCell ⟨t, 2, none⟩ (.slice (some ⟨g7, off7, none⟩) (es1.length + 1) cap7)).setCell ⟨t, 2, none⟩ (.slice (some ⟨g7, off7 + kk * 8, none⟩) (es1.length + 1 - kk) (cap7 - kk))).drew) ∧ StoOk room most (lastN room (es1 ++ [e])) := by
  have hr1 := hs.r1
  have hu0 : Upd0 W ((W.alloc o).drew) := ((Upd.refl _ W).alloc o).drew
  have hW : Upd (fun k => v6.ownBlock = some k) W w7 := (hu0.mono (fun _ _ h => h.elim)).trans hu7 (fun _ _ h => h)
  have hl : (es1 ++ [e]).length = es1.length + 1 := by simp
  have hens : ens (es1 ++ [e]) = ens es1 ++ e.cells := by simp [ens]
  obtain ⟨b1, b2⟩ := a1.put (es' := es1 ++ [e]) hW (by rw [hl, hens]; exact hr7) (fun k hk => by
    rcases hf7 k hk with h | h
    · exact .inl h
    · have := hu0.size; exact .inr (by omega))
  have hd := b1.row
  rw [hl] at hd
  have hd2 := hd.drop (k := kk) (by omega)
  have hld : ((es1 ++ [e]).drop kk).length = es1.length + 1 - kk := by rw [List.length_drop, hl]
  have hed : (ens (es1 ++ [e])).drop (kk * 8) = ens ((es1 ++ [e]).drop kk) := flat_drop en_len _ _
  obtain ⟨c1, c2⟩ := b1.put (v' := .slice (some ⟨g7, off7 + kk * 8, none⟩) (es1.length + 1 - kk) (cap7 - kk)) (es' := (es1 ++ [e]).drop kk) (Upd.refl _ _) (by rw [hld, ← hed]; exact hd2) (fun k hk => .inl hk)
  have hlast : lastN room (es1 ++ [e]) = (es1 ++ [e]).drop kk := by rw [lastN, hl, hkk]
  rw [hlast]
  refine ⟨c1.to0 ((Upd.refl _ _).drew), Upd.drew (b2.tr c2), hs.r1, hs.r2, hs.m1, hs.m2, ?_⟩
  rw [hld]
  omega
set_option maxRecDepth 100000 in
set_option maxHeartbeats 4000000 in
theorem put_go (t : Nat) (room most : Int) (es : List Ent) (v0 : Value) (q : Bs) (ty k : Int) (nm : Bs) (rt tl : Int) (d : Bs) (now : Int) (hq : q.length ≤ 70000) (hn : nm.length ≤ 70000) (hd : d.length ≤ 70000) (hb : (timeB ⟨nm, rt, tl, d⟩ && putOk q ty k now) = true) (w : World) (hs : StoOk room most es) (h : StoIs B w t room most es v0) :
    Calls Try.prog 38 #[.pointer (some ⟨t, 0, none⟩), .agg #[.string ⟨q.toArray⟩, .int .i64 ty], .int .i64 k, .agg #[.string ⟨nm.toArray⟩, .int .i64 rt, .int .i64 tl, .string ⟨d.toArray⟩], .int .i64 now] w (Rets fun r w' => r = .int .i64 (put room most es q ty k ⟨nm, rt, tl, d⟩ now).1 ∧ UpdS B w w' ∧ Sto B w' t room most (put room most es q ty k ⟨nm, rt, tl, d⟩ now).2) := by
  have hqm : q.length ≤ maxLen := by unfold maxLen; omega
  obtain ⟨ht, hpo⟩ := (Bool.and_eq_true ..).mp hb
  rw [show put room most es q ty k ⟨nm, rt, tl, d⟩ now = (if undB q nm then (0, putZ room most es q ty k ⟨nm, rt, tl, d⟩ now) else (9, es)) by rw [put, if_pos hb]]
  simp only [putOk, Bool.and_eq_true, decide_eq_true_eq] at hpo
  obtain ⟨h1, ⟨t1, t2⟩, ⟨k1, k2⟩, n1, n2⟩ := hpo
  have hc := Lib.hid (show timeC ⟨nm, rt, tl, d⟩ = 0 by rw [timeC, ht]; rfl)
  have e1 := Lib.hid (show checkC q = 0 by rw [checkC, h1]; rfl)
  have e2 := Lib.hid (show (decide (1 ≤ ty) && decide (ty ≤ 65535)) = true by simp; omega)
  have e3 := Lib.hid (show (decide (1 ≤ k) && decide (k ≤ 2)) = true by simp; omega)
  have e4 := Lib.hid (show (decide (0 ≤ now) && decide (now ≤ 1099511627776)) = true by simp; omega)
  have hel : es.length ≤ 200 := by have := hs.len; have := hs.r2; omega
  have tk1 : True := trivial
  have tk2 : True := trivial
  have hTb := timeN_bound ⟨nm, rt, tl, d⟩
  have htl := blk_lt h.blk
  obtain ⟨ao, cap, rfl⟩ := h.row.slice
  have hh := Lib.hid h
  have hsh := Lib.hid hs
  clear h1 ht hb h
  cases hun : undB q nm with
  | false =>
    have hunh := Lib.hid hun
    clear hun
    go_enter Try.func38, Try.ntmps38
    go_wp2_with (first
      | (go_at_call 41; (with_reducible refine (time_w nm rt tl d hn hd _).use ?_); rintro v w1 ⟨rfl, hu1⟩; rw [hc.out]; have z1 := Lib.hid (hu1.block (fun h => h) (blk_alloc (alloc_last w _ w.heap.size rfl))); have z2 := Lib.hid (hu1.block (fun h => h) (alloc_last _ _ (w.heap.size + 1) (by simp))); obtain ⟨a0, a1, a2⟩ := cell2s z1.out)
      | (go_at_call 23; (with_reducible refine (check_any q hqm _).use ?_); rintro v w2 ⟨rfl, hu2⟩; rw [e1.out]; obtain ⟨c0, c1, c2⟩ := cell2s (hu2.block (fun h => h) z1.out); obtain ⟨b0, b1, b2, b3⟩ := four' (hu2.block (fun h => h) z2.out))
      | (go_at_call 59; have _t := tk1; (with_reducible refine (dwithin_w ty 1 65535 _).use ?_); rintro v w3 ⟨rfl, rfl⟩; rw [e2.out]; clear tk1 _t)
      | (go_at_call 59; have _t := tk2; (with_reducible refine (dwithin_w k 1 2 _).use ?_); rintro v w3 ⟨rfl, rfl⟩; rw [e3.out]; clear tk2 _t)
      | (go_at_call 59; (with_reducible refine (dwithin_w now 0 1099511627776 _).use ?_); rintro v w3 ⟨rfl, rfl⟩; rw [e4.out])
      | (go_at_call 22; (with_reducible refine (under_w q nm hq hn _).use ?_); rintro v w4 ⟨rfl, hu4⟩; rw [hunh.out])
      | (with_reducible refine wp_serial (by kernel_rfl) (by kernel_rfl) (by (repeat (first | (with_reducible apply NoBad.then) | (with_reducible apply NoBad.inBlock) | (with_reducible exact NoBad.rets))); done) ?_) | fail)
    all_goals go_returns
    have hu : Upd0 w w4 := (by (repeat (first | (with_reducible exact Upd.refl _ _) | (with_reducible assumption) | (with_reducible apply Upd.drew) | (with_reducible apply Upd.alloc) | (refine Upd0.tr ?_ (by with_reducible assumption)) | (refine Upd.setCell ?_ (fun h => absurd h (by first | exact Nat.lt_irrefl _ | (simp only []; omega))) _))); done)
    exact ⟨rfl, UpdS.of0 hu, hsh.out, _, hh.out.to0 hu⟩
  | true =>
    have hunh := Lib.hid hun
    clear hun
    obtain ⟨F, hF⟩ : ∃ F, fold q = F := ⟨_, rfl⟩
    obtain ⟨pk, hpk⟩ : ∃ pk, pkOf ty k = pk := ⟨_, rfl⟩
    obtain ⟨T, hT⟩ : ∃ T, timeN ⟨nm, rt, tl, d⟩ = T := ⟨_, rfl⟩
    have hFh := Lib.hid hF
    have hTh := Lib.hid hT
    rw [hT] at hTb
    obtain ⟨T0, T1⟩ := hTb
    have hzz : putZ room most es q ty k ⟨nm, rt, tl, d⟩ now = (if T = 0 then es.filter (fun x => !delP F pk x) else lastN room ((es.filter fun x => !delP F pk x) ++ [⟨F, pk, k, nm, rt, tl, d, now + min T most⟩])) := by
      rw [putZ, newE, hF, hpk, hT]
    rw [if_pos rfl]
    obtain ⟨R, hR⟩ : ∃ R, putZ room most es q ty k ⟨nm, rt, tl, d⟩ now = R := ⟨_, rfl⟩
    rw [hR]
    rw [hR] at hzz
    have hRh := Lib.hid hzz
    have hpkh := Lib.hid hpk
    clear hF hT hpk hzz hR
    go_enter Try.func38, Try.ntmps38
    go_upto_region 6 with (first
      | (go_at_call 41; (with_reducible refine (time_w nm rt tl d hn hd _).use ?_); rintro v w1 ⟨rfl, hu1⟩; rw [hc.out, hTh.out]; have z1 := Lib.hid (hu1.block (fun h => h) (blk_alloc (alloc_last w _ w.heap.size rfl))); have z2 := Lib.hid (hu1.block (fun h => h) (alloc_last _ _ (w.heap.size + 1) (by simp))); obtain ⟨a0, a1, a2⟩ := cell2s z1.out)
      | (go_at_call 23; (with_reducible refine (check_any q hqm _).use ?_); rintro v w2 ⟨rfl, hu2⟩; rw [e1.out]; obtain ⟨c0, c1, c2⟩ := cell2s (hu2.block (fun h => h) z1.out); obtain ⟨b0, b1, b2, b3⟩ := four' (hu2.block (fun h => h) z2.out))
      | (go_at_call 59; have _t := tk1; (with_reducible refine (dwithin_w ty 1 65535 _).use ?_); rintro v w3 ⟨rfl, rfl⟩; rw [e2.out]; clear tk1 _t)
      | (go_at_call 59; have _t := tk2; (with_reducible refine (dwithin_w k 1 2 _).use ?_); rintro v w3 ⟨rfl, rfl⟩; rw [e3.out]; clear tk2 _t)
      | (go_at_call 59; (with_reducible refine (dwithin_w now 0 1099511627776 _).use ?_); rintro v w3 ⟨rfl, rfl⟩; rw [e4.out])
      | (go_at_call 22; (with_reducible refine (under_w q nm hq hn _).use ?_); rintro v w4 ⟨rfl, hu4⟩; rw [hunh.out]; have y1 := Lib.hid (hu4.block (fun h => h) (hu2.block (fun h => h) z1.out)); have y2 := Lib.hid (hu4.block (fun h => h) (hu2.block (fun h => h) z2.out)); obtain ⟨d0, d1, d2⟩ := cell2s y1.out)
      | (with_reducible refine wp_serial (by kernel_rfl) (by kernel_rfl) (by (repeat (first | (with_reducible apply NoBad.then) | (with_reducible apply NoBad.inBlock) | (with_reducible exact NoBad.rets))); done) ?_) | fail)
    have hu04 : Upd0 w w4 := (by (repeat (first | (with_reducible exact Upd.refl _ _) | (with_reducible assumption) | (with_reducible apply Upd.drew) | (with_reducible apply Upd.alloc) | (refine Upd0.tr ?_ (by with_reducible assumption)) | (refine Upd.setCell ?_ (fun h => absurd h (by first | exact Nat.lt_irrefl _ | (simp only []; omega))) _))); done)
    have hz4 : w.heap.size + 2 ≤ w4.heap.size := by
      have := blk_lt y2.out
      omega
    go_cut [13] from 55 (fun p wx => ∃ bp, p = .pointer (some ⟨bp, 0, none⟩) ∧ w.heap.size + 2 ≤ bp ∧ Upd0 w wx ∧ Hid (wx.heap[w.heap.size + 1]? = some (.cells #[.string ⟨nm.toArray⟩, .int .i64 rt, .int .i64 tl, .string ⟨d.toArray⟩] 48 (0, 0))) ∧ Hid (wx.heap[bp]? = some (.cells #[.string ⟨F.toArray⟩, .int .i64 ty] 98 (0, 0))))
    case first =>
      go_wp2_with (first
        | (with_reducible refine wp_serial6 0 [] 6 2 [0, 1, 3, 4, 6] [5, 7] [0, 1, 3, 4] [5, 6, 7] [_, _, _, _, _] _ [_, _] [_, _, _, _] [_, _, _] (by kernel_rfl) (by decide +kernel) rfl rfl rfl rfl rfl ⟨Nat.zero_le _, fun s hs => absurd hs List.not_mem_nil⟩ (by (repeat (first | (with_reducible apply NoBad.then) | (with_reducible apply NoBad.inBlock) | (with_reducible exact NoBad.rets))); done) ?_ ?_)
        | (go_at_call 24; (with_reducible refine (fold_w q hq _).use ?_); rintro v w5 ⟨rfl, hu5⟩; rw [hFh.out]; obtain ⟨f0, f1, f2⟩ := cell2s (hu5.block (fun h => h) (alloc_at (w := w4) _ rfl rfl)))
        | (go_at_call 24; (with_reducible refine (fold_w q hq _).use ?_); rintro v w5 ⟨rfl, hu5⟩; rw [hFh.out])
        | (refine And.intro hu5.ext ?_)
        | fail)
      all_goals go_meet
      · exact ⟨_, rfl, by omega, (by (repeat (first | (with_reducible exact Upd.refl _ _) | (with_reducible assumption) | (with_reducible apply Upd.drew) | (with_reducible apply Upd.alloc) | (refine Upd0.tr ?_ (by with_reducible assumption)) | (refine Upd.setCell ?_ (fun h => absurd h (by first | exact Nat.lt_irrefl _ | (simp only []; omega))) _))); done), Lib.hid ((blk_set_other (by omega) _ _).trans ((blk_set_other (by omega) _ _).trans (hu5.block (fun h => h) (blk_alloc y2.out)))), Lib.hid (by simpa using blk_set (blk_set (hu5.block (fun h => h) (alloc_at (w := w4) _ rfl rfl)) 0 (.string ⟨F.toArray⟩)) 1 (.int .i64 ty))⟩
      · have y5 : w4.heap.size ≤ w5.heap.size := hu5.size
        exact ⟨_, rfl, by omega, (by (repeat (first | (with_reducible exact Upd.refl _ _) | (with_reducible assumption) | (with_reducible apply Upd.drew) | (with_reducible apply Upd.alloc) | (refine Upd0.tr ?_ (by with_reducible assumption)) | (refine Upd.setCell ?_ (fun h => absurd h (by first | exact Nat.lt_irrefl _ | (simp only []; omega))) _))); done), Lib.hid (blk_alloc (hu5.block (fun h => h) y2.out)), Lib.hid (alloc_last _ _ _ rfl)⟩
    case rest =>
      obtain ⟨bp, rfl, hbp, hux, s1, p1⟩ := hcut
      obtain ⟨g0, g1, g2⟩ := cell2s p1.out
      have hpl := blk_lt p1.out
      by_cases hk2 : k = 2
      · have hpk0 : pk = 0 := by rw [← hpkh.out, pkOf, if_pos hk2]
        subst hpk0
        subst hk2
        have hux2 : Upd0 w (wc.setCell ⟨bp, 1, none⟩ (.int .i64 0)) := (by (repeat (first | (with_reducible exact Upd.refl _ _) | (with_reducible assumption) | (with_reducible apply Upd.drew) | (with_reducible apply Upd.alloc) | (refine Upd0.tr ?_ (by with_reducible assumption)) | (refine Upd.setCell ?_ (fun h => absurd h (by first | exact Nat.lt_irrefl _ | (simp only []; omega))) _))); done)
        have s2 := Lib.hid (show (wc.setCell ⟨bp, 1, none⟩ (.int .i64 0)).heap[w.heap.size + 1]? = some (.cells #[.string ⟨nm.toArray⟩, .int .i64 rt, .int .i64 tl, .string ⟨d.toArray⟩] 48 (0, 0)) from (blk_set_other (by omega) _ _).trans s1.out)
        have p2 := Lib.hid (show (wc.setCell ⟨bp, 1, none⟩ (.int .i64 0)).heap[bp]? = some (.cells #[.string ⟨F.toArray⟩, .int .i64 0] 98 (0, 0)) from by simpa using blk_set p1.out 1 (.int .i64 0))
        go_upto_region 9 with (first | (with_reducible refine wp_serial (by kernel_rfl) (by kernel_rfl) (by (repeat (first | (with_reducible apply NoBad.then) | (with_reducible apply NoBad.inBlock) | (with_reducible exact NoBad.rets))); done) ?_) | fail)
        · clear g0 g1 g2
          have hxI := Lib.hid (hh.out.to0 hux2)
          obtain ⟨m0, m1, m2, m3⟩ := cell3s hxI.out.blk
          obtain ⟨g0, g1, g2⟩ := cell2s p2.out
          obtain ⟨es1, hes1⟩ : ∃ es1, es.filter (fun x => !delP F 0 x) = es1 := ⟨_, rfl⟩
          have hfl : es1.length ≤ es.length := by rw [← hes1]; exact List.length_filter_le _ _
          have hes1h := Lib.hid hes1
          have hlen := hsh.out.len
          have hok1 : StoOk room most es1 := ⟨hsh.out.r1, hsh.out.r2, hsh.out.m1, hsh.out.m2, by omega⟩
          clear hes1
          by_cases hT0 : T = 0
          · subst hT0
            have hRe := Lib.hid (show R = es1 by rw [hRh.out, if_pos rfl, hes1h.out])
            go_wp2_with (first
              | (go_at_call 61; refine (deleteP_w es (by omega) _ bp F 0 _ hxI.out.row p2.out).use ?_; rintro v w6 hD; rw [DelTo, hes1h.out] at hD; obtain ⟨hr6, hu6, hf6⟩ := hD; obtain ⟨ao6, cap6, rfl⟩ := hr6.slice; obtain ⟨f0, f1, f2, f3⟩ := cell3s (hu6.block (fun e => hxI.out.ne e) hxI.out.blk); have hr6h := Lib.hid hr6; have hu6h := Lib.hid hu6; have hf6h := Lib.hid hf6; clear hr6 hu6 hf6)
              | (with_reducible refine wp_serial (by kernel_rfl) (by kernel_rfl) (by (repeat (first | (with_reducible apply NoBad.then) | (with_reducible apply NoBad.inBlock) | (with_reducible exact NoBad.rets))); done) ?_) | fail)
            all_goals go_returns
            obtain ⟨a1, a2⟩ := hxI.out.put hu6h.out hr6h.out (fun k hk => .inl (hf6h.out k hk))
            exact ⟨rfl, (UpdS.of0 hux2).tr a2, by rw [hRe.out]; exact ⟨hok1, _, a1⟩⟩
          · have hRe := Lib.hid (show R = lastN room (es1 ++ [⟨F, 0, 2, nm, rt, tl, d, now + min T most⟩]) by rw [hRh.out, if_neg hT0, hes1h.out])
            obtain ⟨i0, z0, hi0, hz0, hz1, hz4, hz2, hz3⟩ := info_ent'
            have nb1 : ¬ bp = t := by omega
            have nb2 : ¬ t = bp := by omega
            have nb3 : ¬ w.heap.size + 1 = t := by omega
            have nb4 : ¬ t = w.heap.size + 1 := by omega
            have hwr : wrap64 (now + min T most) = now + min T most := by
              have := hsh.out.m2
              have := hsh.out.m1
              unfold wrap64; omega
            obtain ⟨kk, hkk⟩ : ∃ kk : Nat, es1.length + 1 - room.toNat = kk := ⟨_, rfl⟩
            have hkkh := Lib.hid hkk
            have hr1 := hsh.out.r1
            have hmx : max (wrap64 ((es1.length : Int) + 1 - room)) 0 = (kk : Int) := by
              have := hsh.out.r2
              unfold wrap64; omega
            have hk1 : (kk : Int) ≤ es1.length + 1 := by omega
            have hk3 : kk ≤ es1.length + 1 := by omega
            have hk4 : kk ≤ es1.length := by omega
            clear hkk
            have hT0b : (T == 0) = false := beq_eq_false_iff_ne.2 hT0
            go_wp2_with (first
              | (go_at_call 61; refine (deleteP_w es (by omega) _ bp F 0 _ hxI.out.row p2.out).use ?_; rintro v w6 hD; rw [DelTo, hes1h.out] at hD; obtain ⟨hr6, hu6, hf6⟩ := hD; obtain ⟨ao6, cap6, rfl⟩ := hr6.slice; obtain ⟨f0, f1, f2, f3⟩ := cell3s (hu6.block (fun e => hxI.out.ne e) hxI.out.blk); obtain ⟨a1, a2⟩ := hxI.out.put hu6 hr6 (fun k hk => .inl (hf6 k hk)); have a1h := Lib.hid a1; have a2h := Lib.hid a2; have q1 := cell2s (hu6.block (fun e => own_ne hxI.out.row e p2.out) p2.out); obtain ⟨q10, q11, q12⟩ := q1; obtain ⟨q20, q21, q22, q23⟩ := four' (hu6.block (fun e => own_ne hxI.out.row e s2.out) s2.out); have hz6 := hu6.size; clear hr6 hu6 hf6 a1 a2)
              | (at_builtin; (refine wpList_app_off (w := w6.setCell ⟨t, 2, none⟩ (.slice ao6 es1.length cap6)) (by (repeat (first | exact Ext.refl _ | assumption | apply Ext.drew | apply Ext.alloc)); done) rfl (.tmp 79) (.tmp 92) 91 rfl 100 i0 _ 8 88 Try.underlying91 hi0 hz0 hz2 hz3 hz1 (by decide) _ _ _ a1h.out.row rfl _ 1 _ [.string ⟨F.toArray⟩, .int .i64 0, .int .i64 2, .string ⟨nm.toArray⟩, .int .i64 rt, .int .i64 tl, .string ⟨d.toArray⟩, .int .i64 (now + min T most)] (by decide) rfl rfl (alloc_at (w := w6.setCell ⟨t, 2, none⟩ (.slice ao6 es1.length cap6)) _ rfl (by simp)) rfl (by omega) (by omega) ?_; intro ao7 cap7 w7 hr7 hu7 hf7; obtain ⟨g7, off7, rfl⟩ := hr7.some (by omega); have hcap7 : es1.length + 1 ≤ cap7 := (by obtain ⟨_, _, hx, _⟩ := hr7.blk; exact hx); have hkc : ¬ cap7 = kk := (by omega); obtain ⟨r0, r1, r2, r3⟩ := cell3s (hu7.block (fun e => a1h.out.ne e) (ext_block (w := w6.setCell ⟨t, 2, none⟩ (.slice ao6 es1.length cap6)) (by (repeat (first | exact Ext.refl _ | assumption | apply Ext.drew | apply Ext.alloc)); done) a1h.out.blk)); have hr7h := Lib.hid hr7; have hu7h := Lib.hid hu7; have hf7h := Lib.hid hf7; clear hr7 hu7 hf7))
              | (with_reducible refine wp_serial3_1 0 [] [0, 1, 2, 3, 4, 5, 6, 7, 8, 9, 10, 11, 12, 13, 14] 15 [16, 17, 18, 19] [_, _, _, _, _, _, _, _, _, _, _, _, _, _, _] _ [_, _, _, _] (by kernel_rfl) (by decide +kernel) rfl rfl rfl ⟨Nat.zero_le _, fun s hs => absurd hs List.not_mem_nil⟩ (by (repeat (first | (with_reducible apply NoBad.then) | (with_reducible apply NoBad.inBlock) | (with_reducible exact NoBad.rets))); done) ?_)
              | (with_reducible refine wp_serial3_1 0 [] [0, 1, 2, 3, 4, 5, 6, 7, 8, 9, 10, 11, 12, 13] 14 [15, 16, 17, 18, 19, 20, 21] [_, _, _, _, _, _, _, _, _, _, _, _, _, _] _ [_, _, _, _, _, _, _] (by kernel_rfl) (by decide +kernel) rfl rfl rfl ⟨Nat.zero_le _, fun s hs => absurd hs List.not_mem_nil⟩ (by (repeat (first | (with_reducible apply NoBad.then) | (with_reducible apply NoBad.inBlock) | (with_reducible exact NoBad.rets))); done) ?_)
              | (refine And.intro (Ext.refl _) ?_; simp only [List.getElem_toArray, List.getElem_cons_succ, List.getElem_cons_zero])
              | (with_reducible refine wp_serial (by kernel_rfl) (by kernel_rfl) (by (repeat (first | (with_reducible apply NoBad.then) | (with_reducible apply NoBad.inBlock) | (with_reducible exact NoBad.rets))); done) ?_) | fail)
            all_goals go_returns
            obtain ⟨z1, z2, z3⟩ := put_fin (e := ⟨F, 0, 2, nm, rt, tl, d, now + min T most⟩) a1h.out hok1 hu7h.out hf7h.out hr7h.out hkkh.out
            exact ⟨rfl, ((UpdS.of0 hux2).tr a2h.out).tr z2, by rw [hRe.out]; exact ⟨z3, _, z1⟩⟩
      · have hpk0 : pk = ty := by rw [← hpkh.out, pkOf, if_neg hk2]
        subst hpk0
        have hux2 := hux
        have s2 := s1
        have p2 := p1
        go_upto_region 9 with (first | (with_reducible refine wp_serial (by kernel_rfl) (by kernel_rfl) (by (repeat (first | (with_reducible apply NoBad.then) | (with_reducible apply NoBad.inBlock) | (with_reducible exact NoBad.rets))); done) ?_) | fail)
        · clear g0 g1 g2
          have hxI := Lib.hid (hh.out.to0 hux2)
          obtain ⟨m0, m1, m2, m3⟩ := cell3s hxI.out.blk
          obtain ⟨g0, g1, g2⟩ := cell2s p2.out
          obtain ⟨es1, hes1⟩ : ∃ es1, es.filter (fun x => !delP F pk x) = es1 := ⟨_, rfl⟩
          have hfl : es1.length ≤ es.length := by rw [← hes1]; exact List.length_filter_le _ _
          have hes1h := Lib.hid hes1
          have hlen := hsh.out.len
          have hok1 : StoOk room most es1 := ⟨hsh.out.r1, hsh.out.r2, hsh.out.m1, hsh.out.m2, by omega⟩
          clear hes1
          by_cases hT0 : T = 0
          · subst hT0
            have hRe := Lib.hid (show R = es1 by rw [hRh.out, if_pos rfl, hes1h.out])
            go_wp2_with (first
              | (go_at_call 61; refine (deleteP_w es (by omega) _ bp F pk _ hxI.out.row p2.out).use ?_; rintro v w6 hD; rw [DelTo, hes1h.out] at hD; obtain ⟨hr6, hu6, hf6⟩ := hD; obtain ⟨ao6, cap6, rfl⟩ := hr6.slice; obtain ⟨f0, f1, f2, f3⟩ := cell3s (hu6.block (fun e => hxI.out.ne e) hxI.out.blk); have hr6h := Lib.hid hr6; have hu6h := Lib.hid hu6; have hf6h := Lib.hid hf6; clear hr6 hu6 hf6)
              | (with_reducible refine wp_serial (by kernel_rfl) (by kernel_rfl) (by (repeat (first | (with_reducible apply NoBad.then) | (with_reducible apply NoBad.inBlock) | (with_reducible exact NoBad.rets))); done) ?_) | fail)
            all_goals go_returns
            obtain ⟨a1, a2⟩ := hxI.out.put hu6h.out hr6h.out (fun k hk => .inl (hf6h.out k hk))
            exact ⟨rfl, (UpdS.of0 hux2).tr a2, by rw [hRe.out]; exact ⟨hok1, _, a1⟩⟩
          · have hRe := Lib.hid (show R = lastN room (es1 ++ [⟨F, pk, k, nm, rt, tl, d, now + min T most⟩]) by rw [hRh.out, if_neg hT0, hes1h.out])
            obtain ⟨i0, z0, hi0, hz0, hz1, hz4, hz2, hz3⟩ := info_ent'
            have nb1 : ¬ bp = t := by omega
            have nb2 : ¬ t = bp := by omega
            have nb3 : ¬ w.heap.size + 1 = t := by omega
            have nb4 : ¬ t = w.heap.size + 1 := by omega
            have hwr : wrap64 (now + min T most) = now + min T most := by
              have := hsh.out.m2
              have := hsh.out.m1
              unfold wrap64; omega
            obtain ⟨kk, hkk⟩ : ∃ kk : Nat, es1.length + 1 - room.toNat = kk := ⟨_, rfl⟩
            have hkkh := Lib.hid hkk
            have hr1 := hsh.out.r1
            have hmx : max (wrap64 ((es1.length : Int) + 1 - room)) 0 = (kk : Int) := by
              have := hsh.out.r2
              unfold wrap64; omega
            have hk1 : (kk : Int) ≤ es1.length + 1 := by omega
            have hk3 : kk ≤ es1.length + 1 := by omega
            have hk4 : kk ≤ es1.length := by omega
            clear hkk
            have hT0b : (T == 0) = false := beq_eq_false_iff_ne.2 hT0
            go_wp2_with (first
              | (go_at_call 61; refine (deleteP_w es (by omega) _ bp F pk _ hxI.out.row p2.out).use ?_; rintro v w6 hD; rw [DelTo, hes1h.out] at hD; obtain ⟨hr6, hu6, hf6⟩ := hD; obtain ⟨ao6, cap6, rfl⟩ := hr6.slice; obtain ⟨f0, f1, f2, f3⟩ := cell3s (hu6.block (fun e => hxI.out.ne e) hxI.out.blk); obtain ⟨a1, a2⟩ := hxI.out.put hu6 hr6 (fun k hk => .inl (hf6 k hk)); have a1h := Lib.hid a1; have a2h := Lib.hid a2; have q1 := cell2s (hu6.block (fun e => own_ne hxI.out.row e p2.out) p2.out); obtain ⟨q10, q11, q12⟩ := q1; obtain ⟨q20, q21, q22, q23⟩ := four' (hu6.block (fun e => own_ne hxI.out.row e s2.out) s2.out); have hz6 := hu6.size; clear hr6 hu6 hf6 a1 a2)
              | (at_builtin; (refine wpList_app_off (w := w6.setCell ⟨t, 2, none⟩ (.slice ao6 es1.length cap6)) (by (repeat (first | exact Ext.refl _ | assumption | apply Ext.drew | apply Ext.alloc)); done) rfl (.tmp 79) (.tmp 92) 91 rfl 100 i0 _ 8 88 Try.underlying91 hi0 hz0 hz2 hz3 hz1 (by decide) _ _ _ a1h.out.row rfl _ 1 _ [.string ⟨F.toArray⟩, .int .i64 pk, .int .i64 k, .string ⟨nm.toArray⟩, .int .i64 rt, .int .i64 tl, .string ⟨d.toArray⟩, .int .i64 (now + min T most)] (by decide) rfl rfl (alloc_at (w := w6.setCell ⟨t, 2, none⟩ (.slice ao6 es1.length cap6)) _ rfl (by simp)) rfl (by omega) (by omega) ?_; intro ao7 cap7 w7 hr7 hu7 hf7; obtain ⟨g7, off7, rfl⟩ := hr7.some (by omega); have hcap7 : es1.length + 1 ≤ cap7 := (by obtain ⟨_, _, hx, _⟩ := hr7.blk; exact hx); have hkc : ¬ cap7 = kk := (by omega); obtain ⟨r0, r1, r2, r3⟩ := cell3s (hu7.block (fun e => a1h.out.ne e) (ext_block (w := w6.setCell ⟨t, 2, none⟩ (.slice ao6 es1.length cap6)) (by (repeat (first | exact Ext.refl _ | assumption | apply Ext.drew | apply Ext.alloc)); done) a1h.out.blk)); have hr7h := Lib.hid hr7; have hu7h := Lib.hid hu7; have hf7h := Lib.hid hf7; clear hr7 hu7 hf7))
              | (with_reducible refine wp_serial3_1 0 [] [0, 1, 2, 3, 4, 5, 6, 7, 8, 9, 10, 11, 12, 13, 14] 15 [16, 17, 18, 19] [_, _, _, _, _, _, _, _, _, _, _, _, _, _, _] _ [_, _, _, _] (by kernel_rfl) (by decide +kernel) rfl rfl rfl ⟨Nat.zero_le _, fun s hs => absurd hs List.not_mem_nil⟩ (by (repeat (first | (with_reducible apply NoBad.then) | (with_reducible apply NoBad.inBlock) | (with_reducible exact NoBad.rets))); done) ?_)
              | (with_reducible refine wp_serial3_1 0 [] [0, 1, 2, 3, 4, 5, 6, 7, 8, 9, 10, 11, 12, 13] 14 [15, 16, 17, 18, 19, 20, 21] [_, _, _, _, _, _, _, _, _, _, _, _, _, _] _ [_, _, _, _, _, _, _] (by kernel_rfl) (by decide +kernel) rfl rfl rfl ⟨Nat.zero_le _, fun s hs => absurd hs List.not_mem_nil⟩ (by (repeat (first | (with_reducible apply NoBad.then) | (with_reducible apply NoBad.inBlock) | (with_reducible exact NoBad.rets))); done) ?_)
              | (refine And.intro (Ext.refl _) ?_; simp only [List.getElem_toArray, List.getElem_cons_succ, List.getElem_cons_zero])
              | (with_reducible refine wp_serial (by kernel_rfl) (by kernel_rfl) (by (repeat (first | (with_reducible apply NoBad.then) | (with_reducible apply NoBad.inBlock) | (with_reducible exact NoBad.rets))); done) ?_) | fail)
            all_goals go_returns
            obtain ⟨z1, z2, z3⟩ := put_fin (e := ⟨F, pk, k, nm, rt, tl, d, now + min T most⟩) a1h.out hok1 hu7h.out hf7h.out hr7h.out hkkh.out
            exact ⟨rfl, ((UpdS.of0 hux2).tr a2h.out).tr z2, by rw [hRe.out]; exact ⟨z3, _, z1⟩⟩
theorem dput_w (t : Nat) (room most : Int) (es : List Ent) (q : Bs) (ty k : Int) (nm : Bs) (rt tl : Int) (d : Bs) (now : Int) (hq : q.length ≤ 70000) (hn : nm.length ≤ 70000) (hd : d.length ≤ 70000) (w : World) (h : Sto B w t room most es) :
    Calls Try.prog 38 #[.pointer (some ⟨t, 0, none⟩), .agg #[.string ⟨q.toArray⟩, .int .i64 ty], .int .i64 k, .agg #[.string ⟨nm.toArray⟩, .int .i64 rt, .int .i64 tl, .string ⟨d.toArray⟩], .int .i64 now] w (Rets fun r w' => r = .int .i64 (put room most es q ty k ⟨nm, rt, tl, d⟩ now).1 ∧ UpdS B w w' ∧ Sto B w' t room most (put room most es q ty k ⟨nm, rt, tl, d⟩ now).2) := by
  obtain ⟨hs, v, hc⟩ := h
  cases hb : (timeB ⟨nm, rt, tl, d⟩ && putOk q ty k now) with
  | true => exact put_go t room most es v q ty k nm rt tl d now hq hn hd hb w hs hc
  | false =>
    refine (put_bad (some ⟨t, 0, none⟩) q ty k nm rt tl d now hq hn hd (.inr hb) w).use ?_
    rintro r w' ⟨rfl, hu⟩
    have e : put room most es q ty k ⟨nm, rt, tl, d⟩ now = (1, es) := by rw [put, hb]; rfl
    rw [e]
    exact ⟨rfl, UpdS.of0 hu, hs, v, hc.to0 hu⟩
end Go.Proofs.Ytdjleplefbmjbaa
