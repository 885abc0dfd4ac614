/-
  NetDoubles: proved.
-/
import Derived.Test.YtfhaehkofeiobaaNetU
import Derived.Test.YtfhaehkofeiobaaRd
import Derived.Test.YtfhaehkofeiobaaSer2
namespace Go.Proofs.Ytfhaehkofeiobaa
open Go.ChangeShapes Go.WideShapes Go.ChangeAt Go.RowKit
set_option linter.unusedSimpArgs false
set_option linter.unusedVariables false

/-- a slice of strings that came in -/
def StrsIn (w : World) (ao : Option Addr) (ss : List ByteArray) : Prop := ∀ (i : Nat) (s : ByteArray), ss[i]? = some s → ∃ a, ao = some a ∧ w.cell? (a.add i) = some (.string s) ∧ s.size ≤ maxLen
theorem StrsIn.up {w w' : World} {ao : Option Addr} {ss : List ByteArray} (h : StrsIn w ao ss) (k : Upd0 w w') : StrsIn w' ao ss := fun i s hs => by
  obtain ⟨a, h1, h2, h3⟩ := h i s hs
  exact ⟨a, h1, k.cell (fun h => h) h2, h3⟩
theorem strs_of {w : World} {v : Value} (hv : ∃ a len cap, v = .slice a len cap) (h : Reads w (.slice .str) v.cells.toList) : ∃ ao cap ss, v = .slice ao (ss : List ByteArray).length cap ∧ StrsIn w ao ss ∧ ss.length ≤ maxLen := by
  obtain ⟨a0, l0, c0, rfl⟩ := hv
  simp only [Reads] at h
  rcases h with h | ⟨a, len, cap, h, hl, hm, hel⟩
  · refine ⟨none, 0, [], ?_, ?_, by simp [maxLen]⟩
    rotate_left
    · intro i s hs
      simp at hs
    simpa [Value.cells] using h
  · have hv : Value.slice a0 l0 c0 = .slice (some a) len cap := by simpa [Value.cells] using h
    obtain ⟨ss, hs1, hs2⟩ := reads_list (α := { s : ByteArray // s.size ≤ maxLen }) (e := .str) (f := fun s => [Value.string s.1]) (fun cs hc => by
      obtain ⟨s, rfl, hs⟩ := hc
      exact ⟨⟨s, hs⟩, rfl⟩) hel
    refine ⟨some a, cap, ss.map (·.1), by rw [hv, List.length_map, hs1], fun i s hi => ⟨a, rfl, ?_, ?_⟩, by rw [List.length_map]; omega⟩
    · rw [List.getElem?_map] at hi
      obtain ⟨x, hx, rfl⟩ := Option.map_eq_some_iff.1 hi
      simpa [Ty.cells] using hs2 i x hx 0 _ rfl
    · rw [List.getElem?_map] at hi
      obtain ⟨x, hx, rfl⟩ := Option.map_eq_some_iff.1 hi
      exact x.2
def mk0 (s : ByteArray) : Pk := ⟨0, 0, s⟩
def strOk (s : ByteArray) : Bool := decide (1 ≤ s.size) && decide (s.size ≤ 1000)
theorem mk0_ok {s : ByteArray} (h : strOk s = true) : okPk 3 (mk0 s) = true := by
  simp only [strOk, Bool.and_eq_true, decide_eq_true_eq] at h
  obtain ⟨h1, h2⟩ := h
  have e : okPk 3 (mk0 s) = (decide ((1 : Int) ≤ s.size) && decide ((s.size : Int) ≤ 65535)) := rfl
  rw [e, Bool.and_eq_true, decide_eq_true_eq, decide_eq_true_eq]
  exact ⟨by omega, by omega⟩
theorem mk0_send {l : List Pk} {s : ByteArray} (h : strOk s = true) (hl : l.length < 1000) : sendL 3 1000 l (mk0 s) = l ++ [mk0 s] ∧ sendC 3 1000 l (mk0 s) = 0 := by
  have : ¬ (1000 : Int) ≤ l.length := by omega
  simp [sendL, sendC, mk0_ok h, this]
theorem look_nat {l : List Pk} {n : Nat} {p : Pk} (h : l[n]? = some p) : lookP l n = p ∧ lookB l n = true := by
  have hl := (List.getElem?_eq_some_iff.1 h).1
  have hb : (0 : Int) ≤ n ∧ (n : Int) < l.length := ⟨by omega, by omega⟩
  refine ⟨?_, by rw [lookB]; exact decide_eq_true hb⟩
  rw [lookP, if_pos hb]
  simp [List.getD, h]
theorem dbl_facts {ss : List ByteArray} {n : Nat} {s : ByteArray} (hs : ss[n]? = some s) : lookP (ss.map mk0) n = mk0 s ∧ lookB (ss.map mk0) n = true ∧
    lookP (ss.map mk0 ++ [mk0 s]) n = mk0 s ∧ lookB (ss.map mk0 ++ [mk0 s]) n = true ∧ lookP (ss.map mk0 ++ [mk0 s]) ss.length = mk0 s ∧ lookB (ss.map mk0 ++ [mk0 s]) ss.length = true ∧ (ss.map mk0 ++ [mk0 s]).length = ss.length + 1 := by
  have h1 : (ss.map mk0)[n]? = some (mk0 s) := by rw [List.getElem?_map, hs]; rfl
  have hl := (List.getElem?_eq_some_iff.1 h1).1
  have h2 : (ss.map mk0 ++ [mk0 s])[n]? = some (mk0 s) := by rw [List.getElem?_append_left hl, h1]
  have h3 : (ss.map mk0 ++ [mk0 s])[ss.length]? = some (mk0 s) := by rw [List.getElem?_append_right (by simp)]; simp
  exact ⟨(look_nat h1).1, (look_nat h1).2, (look_nat h2).1, (look_nat h2).2, (look_nat h3).1, (look_nat h3).2, by simp⟩
set_option maxHeartbeats 1000000 in
theorem netDoubles_walk (ao : Option Addr) (cap : Nat) (ss : List ByteArray) (i : Int) (w : World) (hS : StrsIn w ao ss) (hlen : ss.length ≤ maxLen) :
    Calls Try.prog 7 #[.slice ao ss.length cap, .int .i64 i] w (Rets fun r w' => r = .bool true ∧ Upd0 w w') := by
  have hSh := Lib.hid hS
  clear hS
  simp only [maxLen] at hlen
  by_cases h60 : ss.length ≤ 60
  · go_enter Try.func7, Try.ntmps7
    go_wp2_with (first
      | (with_reducible refine wp_serial (by kernel_rfl) (by kernel_rfl) (by (repeat (first | (with_reducible apply NoBad.then) | (with_reducible apply NoBad.inBlock) | (with_reducible exact NoBad.rets))); done) ?_)
      | (go_at_call 8; refine (newA (w0 := w) 3 1000 (by (repeat (first | exact Upd.refl _ _ | assumption | apply Upd.drew | apply Upd.alloc | (refine Upd.setCell ?_ (fun h => absurd h (by first | exact Nat.lt_irrefl _ | (simp only []; omega))) _))); done) (by decide)).use ?_; rintro v w1 ⟨b, rfl, hb1, hn1, hu1⟩; have h1 := Lib.hid hn1; clear hn1 hu1)
      | fail)
    go_loopw [7] (fun j wr => ∃ k : Nat, k ≤ ss.length ∧ j = .int .i64 k ∧ Hid (NetAt 55 37 w wr [] b 3 1000 ((ss.take k).map mk0)) ∧ Hid (∀ j s, j < k → ss[j]? = some s → strOk s = true)) (fun j _ => ss.length - (intOf j).toNat)
    case atStart => exact ⟨0, Nat.zero_le _, rfl, Lib.hid (h1.out.up (by (repeat (first | exact Upd.refl _ _ | assumption | apply Upd.drew | apply Upd.alloc | (refine Upd.setCell ?_ (fun h => absurd h (by first | exact Nat.lt_irrefl _ | (simp only []; omega))) _))); done)), Lib.hid (fun j s hj => by omega)⟩
    case round =>
      obtain ⟨k, hk, rfl, hn, hok⟩ := hrel
      by_cases hlt : k < ss.length
      · obtain ⟨s, hs⟩ : ∃ s, ss[k]? = some s := ⟨ss[k], by simp [hlt]⟩
        obtain ⟨a, rfl, hc, hsz⟩ := (hSh.out.up hn.out.upd) k s hs
        have hsh := Lib.hid hs
        clear hs
        have hw : s.size < 1 ∨ (1 ≤ s.size ∧ 1000 < s.size) ∨ (1 ≤ s.size ∧ s.size ≤ 1000) := by omega
        rcases hw with hw | ⟨hw, hw2⟩ | ⟨hw, hw2⟩
        · go_wp2_with (first
            | (with_reducible refine wp_serial (by kernel_rfl) (by kernel_rfl) (by (repeat (first | (with_reducible apply NoBad.then) | (with_reducible apply NoBad.inBlock) | (with_reducible exact NoBad.rets))); done) ?_)
            | (go_at_call 9; refine (live_any _).use ?_; rintro v w2 ⟨rfl, hu⟩; have h2 := Lib.hid hu; clear hu)
            | fail)
          go_ret
          exact ⟨rfl, Upd.trans (Upd.trans hn.out.upd (by (repeat (first | exact Upd.refl _ _ | assumption | apply Upd.drew | apply Upd.alloc | (refine Upd.setCell ?_ (fun h => absurd h (by first | exact Nat.lt_irrefl _ | (simp only []; omega))) _))); done) (fun _ _ h => h)) h2.out (fun _ _ h => h)⟩
        · go_wp2_with (first
            | (with_reducible refine wp_serial (by kernel_rfl) (by kernel_rfl) (by (repeat (first | (with_reducible apply NoBad.then) | (with_reducible apply NoBad.inBlock) | (with_reducible exact NoBad.rets))); done) ?_)
            | (go_at_call 9; refine (live_any _).use ?_; rintro v w2 ⟨rfl, hu⟩; have h2 := Lib.hid hu; clear hu)
            | fail)
          go_ret
          exact ⟨rfl, Upd.trans (Upd.trans hn.out.upd (by (repeat (first | exact Upd.refl _ _ | assumption | apply Upd.drew | apply Upd.alloc | (refine Upd.setCell ?_ (fun h => absurd h (by first | exact Nat.lt_irrefl _ | (simp only []; omega))) _))); done) (fun _ _ h => h)) h2.out (fun _ _ h => h)⟩
        · have hb : strOk s = true := by simp [strOk]; omega
          have hbh := Lib.hid hb
          clear hb
          go_wp2_with (first
            | (with_reducible refine wp_serial (by kernel_rfl) (by kernel_rfl) (by (repeat (first | (with_reducible apply NoBad.then) | (with_reducible apply NoBad.inBlock) | (with_reducible exact NoBad.rets))); done) ?_)
            | (go_at_call 10; refine (sendA (w0 := w) (b := b) (nd := 3) (rm := 1000) (mk0 s) (hn.out.up (by (repeat (first | exact Upd.refl _ _ | assumption | apply Upd.drew | apply Upd.alloc | (refine Upd.setCell ?_ (fun h => absurd h (by first | exact Nat.lt_irrefl _ | (simp only []; omega))) _))); done)) (by decide) (by decide) (by decide)).use ?_; rintro v w2 ⟨rfl, hn2, -⟩; have h2 := Lib.hid hn2; clear hn2)
            | fail)
          go_roundw
          case rel => exact ⟨k + 1, by omega, by go_num, Lib.hid (by
            have h3 := h2.out
            rw [(mk0_send hbh.out (by simp; omega)).1] at h3
            rw [List.take_add_one, hsh.out]; simpa using h3), Lib.hid (fun j s' hj hjs => by
            rcases Nat.lt_succ_iff_lt_or_eq.1 hj with h | rfl
            · exact hok.out j s' h hjs
            · rw [hsh.out] at hjs; cases hjs; exact hbh.out)⟩
          case measure => simp [intOf]; omega
      · obtain rfl : k = ss.length := by omega
        rw [List.take_length] at hn
        have hlm : (ss.map mk0).length = ss.length := List.length_map _
        have hlmh := Lib.hid hlm
        clear hlm
        cases hi : lookB (ss.map mk0) i with
        | false =>
          have hw : i < 0 ∨ (0 ≤ i ∧ (ss.length : Int) ≤ i) := by simp [lookB] at hi; omega
          have hd := Lib.hid (show doubleC 3 1000 (ss.map mk0) i = 5 by simp [doubleC, hi])
          have hd' := Lib.hid (show doubleL 3 1000 (ss.map mk0) i = ss.map mk0 by simp [doubleL, hi])
          clear hi
          rcases hw with hw | ⟨hw, hw2⟩
          all_goals
            go_wp2_with (first
              | (with_reducible refine wp_serial (by kernel_rfl) (by kernel_rfl) (by (repeat (first | (with_reducible apply NoBad.then) | (with_reducible apply NoBad.inBlock) | (with_reducible exact NoBad.rets))); done) ?_)
              | (go_at_call 15; refine (doubleA (w0 := w) (b := b) (nd := 3) (rm := 1000) (l := ss.map mk0) (hn.out.up (by (repeat (first | exact Upd.refl _ _ | assumption | apply Upd.drew | apply Upd.alloc | (refine Upd.setCell ?_ (fun h => absurd h (by first | exact Nat.lt_irrefl _ | (simp only []; omega))) _))); done)) (by decide) (by decide) (by decide) (by simp; omega) _).use ?_; rintro v w2 ⟨rfl, hn2, -⟩; rw [hd.out]; rw [hd'.out] at hn2; have h2 := Lib.hid hn2; clear hn2)
              | (go_at_call 21; refine (lenA (h2.out.up (by (repeat (first | exact Upd.refl _ _ | assumption | apply Upd.drew | apply Upd.alloc | (refine Upd.setCell ?_ (fun h => absurd h (by first | exact Nat.lt_irrefl _ | (simp only []; omega))) _))); done))).use ?_; rintro v w3 ⟨rfl, rfl⟩; rw [hlmh.out])
              | (go_at_call 9; refine (live_any _).use ?_; rintro v w4 ⟨rfl, hu⟩; have h4 := Lib.hid hu; clear hu)
              | fail)
            go_ret
            exact ⟨rfl, Upd.trans (Upd.trans h2.out.upd (by (repeat (first | exact Upd.refl _ _ | assumption | apply Upd.drew | apply Upd.alloc | (refine Upd.setCell ?_ (fun h => absurd h (by first | exact Nat.lt_irrefl _ | (simp only []; omega))) _))); done) (fun _ _ h => h)) h4.out (fun _ _ h => h)⟩
        | true =>
          have hw : 0 ≤ i ∧ i < ss.length := by simpa [lookB] using hi
          obtain ⟨n, rfl⟩ := Int.eq_ofNat_of_zero_le hw.1
          have hnl : n < ss.length := by omega
          obtain ⟨s, hs⟩ : ∃ s, ss[n]? = some s := ⟨ss[n], by simp [hnl]⟩
          obtain ⟨a, rfl, hc, hsz⟩ := hSh.out n s hs
          obtain ⟨q1, q2, q3, q4, q5, q6, q7⟩ := dbl_facts hs
          have hsk := hok.out n s hnl hs
          have hd := Lib.hid (show doubleC 3 1000 (ss.map mk0) n = 0 by rw [doubleC, if_pos hi, q1, (mk0_send hsk (by rw [hlmh.out]; omega)).2])
          have hd' := Lib.hid (show doubleL 3 1000 (ss.map mk0) n = ss.map mk0 ++ [mk0 s] by rw [doubleL, if_pos hi, q1, (mk0_send hsk (by rw [hlmh.out]; omega)).1])
          have p1 := Lib.hid q3
          have p2 := Lib.hid q4
          have p3 := Lib.hid q5
          have p4 := Lib.hid q6
          have p5 := Lib.hid q7
          have hal := World.block_lt_of_cell? w _ hc
          have m3 : (mk0 s).by_ = s := rfl
          have hch := Lib.hid hc
          clear hc
          clear hi hs hw q1 q2 q3 q4 q5 q6 q7 hsk
          go_wp2_with (first
            | (have qq := h4.out; clear qq; (with_reducible refine wp_serial2 4 7 [0, 1, 2, 3, 5, 6, 7, 4, 8, 9, 10, 11, 12, 13, 14, 15, 16, 17, 18, 19, 20, 21, 22, 23, 24, 25, 26, 27, 28, 29, 30] [_, _, _, _, _, _, _, _, _, _, _, _, _, _, _, _, _, _, _, _, _, _, _, _, _, _, _, _, _, _, _] (by kernel_rfl) (by decide +kernel) rfl (by (repeat (first | (with_reducible apply NoBad.then) | (with_reducible apply NoBad.inBlock) | (with_reducible exact NoBad.rets))); done) ?_ ?_))
            | (with_reducible refine wp_serial (by kernel_rfl) (by kernel_rfl) (by (repeat (first | (with_reducible apply NoBad.then) | (with_reducible apply NoBad.inBlock) | (with_reducible exact NoBad.rets))); done) ?_)
            | (go_at_call 15; refine (doubleA (w0 := w) (b := b) (nd := 3) (rm := 1000) (l := ss.map mk0) (hn.out.up (by (repeat (first | exact Upd.refl _ _ | assumption | apply Upd.drew | apply Upd.alloc | (refine Upd.setCell ?_ (fun h => absurd h (by first | exact Nat.lt_irrefl _ | (simp only []; omega))) _))); done)) (by decide) (by decide) (by decide) (by simp; omega) _).use ?_; rintro v w2 ⟨rfl, hn2, -⟩; rw [hd.out]; rw [hd'.out] at hn2; have h2 := Lib.hid hn2; clear hn2)
            | (go_at_call 19; refine (lookA (w0 := w) (b := b) (nd := 3) (rm := 1000) (l := ss.map mk0 ++ [mk0 s]) (h2.out.up (by (repeat (first | exact Upd.refl _ _ | assumption | apply Upd.drew | apply Upd.alloc | (refine Upd.setCell ?_ (fun h => absurd h (by first | exact Nat.lt_irrefl _ | (simp only []; omega))) _))); done)) (by rw [p5.out]; omega) n).use ?_; rintro v w3 ⟨rfl, hu⟩; rw [p1.out, p2.out]; obtain ⟨k1, k2, k3⟩ := hu.rules; (try simp only [World.size_alloc, World.size_drew] at k1 k2 k3); have h3 := Lib.hid (h2.out.up (Upd.trans (w := w2) (by (repeat (first | exact Upd.refl _ _ | assumption | apply Upd.drew | apply Upd.alloc | (refine Upd.setCell ?_ (fun h => absurd h (by first | exact Nat.lt_irrefl _ | (simp only []; omega))) _))); done) hu (fun _ _ h => h))); clear hu h2)
            | (go_at_call 19; refine (lookA (w0 := w) (b := b) (nd := 3) (rm := 1000) (l := ss.map mk0 ++ [mk0 s]) (h3.out.up (by (repeat (first | exact Upd.refl _ _ | assumption | apply Upd.drew | apply Upd.alloc | (refine Upd.setCell ?_ (fun h => absurd h (by first | exact Nat.lt_irrefl _ | (simp only []; omega))) _))); done)) (by rw [p5.out]; omega) ss.length).use ?_; rintro v w4 ⟨rfl, hu⟩; rw [p3.out, p4.out]; obtain ⟨l1, l2, l3⟩ := hu.rules; (try simp only [World.size_alloc, World.size_drew] at l1 l2 l3); have kw : w3.heap.size < w4.heap.size := (by omega); have h4 := Lib.hid (h3.out.up (Upd.trans (w := w3) (by (repeat (first | exact Upd.refl _ _ | assumption | apply Upd.drew | apply Upd.alloc | (refine Upd.setCell ?_ (fun h => absurd h (by first | exact Nat.lt_irrefl _ | (simp only []; omega))) _))); done) hu (fun _ _ h => h))); clear hu h3; have e4 := h4.out.upd.cell (fun h => h) hch.out; have e5 := World.block_lt_of_cell? w4 _ e4)
            | (go_at_call 21; refine (lenA (h4.out.up (by (repeat (first | exact Upd.refl _ _ | assumption | apply Upd.drew | apply Upd.alloc | (refine Upd.setCell ?_ (fun h => absurd h (by first | exact Nat.lt_irrefl _ | (simp only []; omega))) _))); done))).use ?_; rintro v w5 ⟨rfl, rfl⟩; rw [p5.out])
            | (go_at_call 9; refine (live_any _).use ?_; rintro v w6 ⟨rfl, hu⟩; have h6 := Lib.hid hu; clear hu)
            | fail)
          all_goals go_ret
          all_goals exact ⟨rfl, Upd.trans (Upd.trans h4.out.upd (by (repeat (first | exact Upd.refl _ _ | assumption | apply Upd.drew | apply Upd.alloc | (refine Upd.setCell ?_ (fun h => absurd h (by first | exact Nat.lt_irrefl _ | (simp only []; omega))) _))); done) (fun _ _ h => h)) h6.out (fun _ _ h => h)⟩
  · go_enter Try.func7, Try.ntmps7
    go_wp2_with (first
      | (with_reducible refine wp_serial (by kernel_rfl) (by kernel_rfl) (by (repeat (first | (with_reducible apply NoBad.then) | (with_reducible apply NoBad.inBlock) | (with_reducible exact NoBad.rets))); done) ?_)
      | (go_at_call 9; refine (live_any _).use ?_; rintro v w1 ⟨rfl, hu⟩; have h1 := Lib.hid hu; clear hu)
      | fail)
    go_ret
    exact ⟨rfl, Upd.trans (by (repeat (first | exact Upd.refl _ _ | assumption | apply Upd.drew | apply Upd.alloc | (refine Upd.setCell ?_ (fun h => absurd h (by first | exact Nat.lt_irrefl _ | (simp only []; omega))) _))); done) h1.out (fun _ _ h => h)⟩
theorem netDoubles_contract (H : Type) (enc : TypeId × Value → H) (W : World) (base : Nat) (args : Array Value) (ds gs : List (DataW H)) (before : List MemPlace)
    (hval : ∀ (j : Nat) t v, Try.f7.params[j]? = some t → args[j]? = some v → Value.okWide Try.prog W .any base t v)
    (hW : DataW.Whole enc Try.prog Try.f7.params.toList Rows.netDoublesSpec.vars false W args.toList ds gs before) :
    Calls Try.prog 7 args W fun e W' => ∃ v, e = .returned v ∧ Rows.netDoublesSpec.post enc Try.prog Try.f7 false true false false W args v W' := by
  have hW' := hW
  obtain ⟨p, q, hA0, hV, rfl, hfz, hnd⟩ := hW
  have hA : DataW.TrodAll enc Try.prog W 0 (fun _ => true) true Try.f7.params.toList args.toList ds p := hA0
  rw [Try.params7] at hA hval
  obtain ⟨v0, vs0, d0, ds0, p0, q0, hargs, rfl, rfl, h0, r0⟩ := trodAll_cons hA
  obtain ⟨v1, vs1, d1, ds1, p1, q1, rfl, rfl, rfl, h1, r1⟩ := trodAll_cons r0
  obtain ⟨rfl, rfl, rfl⟩ := trodAll_nil r1
  obtain rfl : args = #[v0, v1] := by cases args; simp_all
  obtain ⟨ao, cap, ss, rfl, hS, hlen⟩ := strs_of (okWide_slice Try.underlying49 (hval 0 49 v0 rfl rfl)) (reads_trod (ty := .slice .str) (by kernel_rfl) h0)
  obtain ⟨i, rfl, rfl, rfl, wi⟩ := open_int Try.underlying3 (hval 1 3 v1 rfl rfl) h1
  refine (netDoubles_walk ao cap ss i W hS hlen).mono fun e W1 he => ?_
  cases e with
  | returned r =>
    obtain ⟨rfl, hU⟩ := he
    exact ⟨_, rfl, law_post TrylaidOut (by kernel_rfl) Try.underlying4 rfl (by kernel_rfl) (fun p hp => rfl) hW' hU⟩
  | _ => exact he.elim
set_option maxRecDepth 100000 in
theorem netDoubles_lifted (os : Os) (started : os.Started) (H : Type) (enc : TypeId × Value → H) :
    ReturnsInHanded {} Try.checked os 7 .any (Rows.netDoublesSpec.pre6 enc Try.prog Try.f7 Rows.netDoublesRow.domain false) (Rows.netDoublesSpec.post enc Try.prog Try.f7 false true false false) := by
  refine returnsInHanded_of_change (C := Try.checked) Tryown started (by kernel_rfl) Try.func7
    (ChangeSpec.witness6 (enc := enc) (C := Try.checked) false ⟨#[], #[.slice none 0 0, .int .i64 0], []⟩ 8 (by kernel_rfl) (by kernel_rfl) (by kernel_rfl) (by kernel_rfl)) ?_
  intro W base args ds gs before hval hW hcnd _
  exact netDoubles_contract H enc W base args ds gs before hval hW
theorem netDoubles_holds : Rows.NetDoublesSaid :=
  OpenClaim.holds_of_wide 7 Try.f7 rfl rfl rfl rfl rfl rfl rfl ⟨rfl, rfl, rfl, rfl, rfl⟩ rfl rfl rfl rfl rfl (by kernel_rfl) Try.func7 (by kernel_rfl)
    (of_decide_eq_true (by kernel_rfl)) (by unfold Func.isWrapper; first | (rw [if_pos (by decide +kernel)]; kernel_rfl) | (rw [if_neg (by decide +kernel)]; exact ⟨rfl, rfl⟩))
    (fun os started H enc _ => netDoubles_lifted os started H enc)
end Go.Proofs.Ytfhaehkofeiobaa
