/-
  Whether a name may be; a name's bytes as data.
  A name as data; which types hold one.
  Slices of bytes that are a call's own, in memory; from strings, to strings; append.
  The type of bytes.
  Numbers as bytes, texts.
  The first name of data; numbers.
  Beginnings of authority.
  Soa, of both.
  Soa, the document's.
-/
import Derived.Handy
import Derived.Test.YtijmbpokglohbaaKa
import Derived.Maps.AppendAt
import Derived.Lib.ConvBytes
import Derived.Lib.AppendStr
import Derived.Laws.IdiomStrings
namespace Go.Proofs.Ytijmbpokglohbaa
open Go.RowKit
set_option linter.unusedSimpArgs false
set_option linter.unusedVariables false
def checkC (s : Bs) : Int := if cutB s then 0 else 1
theorem check_any (s : Bs) (hm : s.length ≤ maxLen) (w : World) : Calls Try.prog 80 #[.string ⟨s.toArray⟩] w (Rets fun r w' => r = .int .i64 (checkC s) ∧ Upd0 w w') := by
  go_enter Try.func80, Try.ntmps80
  go_wp2_with (first
    | (go_at_call 86; refine (cut_any s hm _).use ?_; rintro v w1 ⟨ao, cap, rfl, hr, hb⟩; have hu1 := Upd0.of_below hb; clear hr hb)
    | fail)
  all_goals go_returns
  all_goals exact ⟨by simp_all [checkC], (by repeat first | with_reducible (first | exact Upd.refl _ _ | assumption | apply Upd.drew | apply Upd.alloc) | refine Upd0.tr ?_ (by with_reducible assumption) | refine Upd.setCell ?_ (fun h => absurd h (by first | exact Nat.lt_irrefl _ | (simp only []; omega))) _)⟩

set_option maxRecDepth 100000 in
set_option maxHeartbeats 1000000 in
theorem rcut_any (s : Bs) (hm : s.length ≤ maxLen) (w : World) : Calls Try.prog 55 #[.string ⟨s.toArray⟩] w (Rets fun r w' =>
    ∃ ao cap, r = .tuple #[.slice ao (cutL s).length cap, .bool (cutB s)] ∧ w'.ownsRow w.heap.size 9 1 (.slice ao (cutL s).length cap) (cutL s).length (strs (cutL s)) ∧ Upd0 w w') := by
  obtain ⟨i0, hi, hz0, hz1, hz2⟩ := info_parts info_str
  unfold maxLen at hm
  by_cases hs : s.length ≤ 254
  · go_enter Try.func55, Try.ntmps55
    go_wp2_with fail
    go_loopw [4, 5] (fun o i wr => ∃ (k : Nat) (acc : List Bs) (ao : Option Addr) (cap : Nat), k ≤ s.length ∧ i = .int .i64 k ∧ o = .slice ao acc.length cap ∧ acc.length ≤ k ∧ Hid (wr.ownsRow w.heap.size 9 1 (.slice ao acc.length cap) acc.length (strs acc)) ∧ Upd0 w wr ∧ Hid (lab s = (lab (s.drop k)).map (acc ++ ·)))
      (fun _ i _ => s.length - (intOf i).toNat)
    case atStart => exact ⟨0, [], none, 0, Nat.zero_le _, rfl, rfl, Nat.le_refl _, Lib.hid (World.ownsRow_nil _ _ _ _), Upd.refl _ _, Lib.hid (by simp)⟩
    case round =>
      obtain ⟨i, acc, ao, cap, hi1, rfl, rfl, hal, hrow, hu, hl⟩ := hrel
      by_cases hlt : i < s.length
      · obtain ⟨k, t, hkt, hk, ht, hlen1, hlen2⟩ := drop_facts hlt
        have hkth := Lib.hid hkt
        clear hkt
        cases hok : okL k t with
        | true =>
          obtain ⟨hk1, hk2, hk3⟩ := okL_iff.1 hok
          have hx : (s.take (i + 1 + k.toNat)).drop (i + 1) = t.take k.toNat := by rw [← ht, List.drop_take]; congr 1; omega
          have hokh := Lib.hid hok
          clear hok
          go_wp2_with (first
            | (at_builtin; refine wpList_append_own _ rfl _ _ 43 rfl w.heap.size 9 i0 (.string .empty) 1 16 Try.underlying43 hi hz0 hz1 hz2 rfl (by decide) _ _ _ rfl (hrow.out.alloc _) ⟨wr.heap.size, 0, none⟩ 1 1 [.string ⟨(t.take k.toNat).toArray⟩] rfl rfl (cell_one_new _ _ _) (by simp [Value.oneCell']) (by unfold maxLen; omega) (by omega) (by have := hu.size; simp only [World.size_alloc]; omega) ?_; intro v' w1 hown' hgrow hni; clear hni; obtain ⟨g', cap', rfl⟩ := ownsRow_succ hown'; have hu1 := app0 hu hrow.out hgrow; have hownh := Lib.hid hown'; clear hown' hgrow)
            | fail)
          go_roundw
          case rel => exact ⟨i + 1 + k.toNat, acc ++ [t.take k.toNat], some ⟨g', 0, none⟩, cap', by omega, by go_num, by simp, by simp; omega, Lib.hid (by simpa [strs] using hownh.out), hu1, Lib.hid (by
            rw [hl.out, hkth.out, lab_cons, if_pos hokh.out, ← List.drop_drop, ht]
            cases lab (t.drop k.toNat) <;> simp)⟩
          case measure => simp [intOf]; omega
        | false =>
          have hno := okL_no hok
          have hfin := Lib.hid (cut_none (show lab s = none by rw [hl.out, hkth.out, lab_cons, if_neg (by rw [hok]; decide)]; rfl))
          clear hok
          rcases hno with hk1 | ⟨hk1, hk2⟩ | ⟨hk1, hk2, hk3⟩
          all_goals
            go_wp2_with (first | fail)
            go_returns
            refine ⟨none, 0, by rw [hfin.out.1, hfin.out.2]; rfl, ?_, hu⟩
            rw [hfin.out.2]; exact World.ownsRow_nil _ _ _ _
      · go_wp2_with (first | fail)
        go_returns
        have hs1 : lab s = some acc := by rw [hl.out, List.drop_of_length_le (by omega), lab_nil]; simp
        have hs2 : cutO s = some acc := by rw [cutO, if_neg (by omega), hs1]
        have hs3 : cutL s = acc := by rw [cutL, hs2]; rfl
        have hs4 : cutB s = true := by rw [cutB, hs2]; rfl
        rw [hs3, hs4]
        exact ⟨_, _, rfl, hrow.out, hu⟩
  · go_enter Try.func55, Try.ntmps55
    go_wp2_with fail
    go_returns
    have hs2 : cutO s = none := by rw [cutO, if_pos (by omega)]
    have hs3 : cutL s = [] := by rw [cutL, hs2]; rfl
    have hs4 : cutB s = false := by rw [cutB, hs2]; rfl
    rw [hs3, hs4]
    exact ⟨none, 0, rfl, World.ownsRow_nil _ _ _ _, Upd.refl _ _⟩
theorem rcheck_any (s : Bs) (hm : s.length ≤ maxLen) (w : World) : Calls Try.prog 29 #[.string ⟨s.toArray⟩] w (Rets fun r w' => r = .int .i64 (checkC s) ∧ Upd0 w w') := by
  go_enter Try.func29, Try.ntmps29
  go_wp2_with (first
    | (go_at_call 55; refine (rcut_any s hm _).use ?_; rintro v w1 ⟨ao, cap, rfl, hr, hu1⟩; clear hr)
    | fail)
  all_goals go_returns
  all_goals exact ⟨by simp_all [checkC], (by repeat first | with_reducible (first | exact Upd.refl _ _ | assumption | apply Upd.drew | apply Upd.alloc) | refine Upd0.tr ?_ (by with_reducible assumption) | refine Upd.setCell ?_ (fun h => absurd h (by first | exact Nat.lt_irrefl _ | (simp only []; omega))) _)⟩
end Go.Proofs.Ytijmbpokglohbaa

namespace Go.Proofs.Ytijmbpokglohbaa
open Go.RowKit
set_option linter.unusedSimpArgs false
set_option linter.unusedVariables false
def hostS (s : Bs) : Bs := if cutB s then s ++ [0] else []
theorem host_w (s : Bs) (hm : s.length ≤ 70000) (w : World) : Calls Try.prog 123 #[.string ⟨s.toArray⟩] w (Rets fun r w' => r = .tuple #[.string ⟨(hostS s).toArray⟩, .int .i64 (checkC s)] ∧ Upd0 w w') := by
  go_enter Try.func123, Try.ntmps123
  cases hb : cutB s
  all_goals
    have hC := Lib.hid (show checkC s = _ by rw [checkC, hb])
    have hbh := Lib.hid hb
    clear hb
    go_wp2_with (first
      | (go_at_call 80; refine (check_any s (by unfold maxLen; omega) _).use ?_; rintro v w1 ⟨rfl, hu1⟩; rw [hC.out])
      | fail)
    all_goals go_returns
    all_goals exact ⟨by simp [hostS, hC.out, hbh.out], (by repeat first | with_reducible (first | exact Upd.refl _ _ | assumption | apply Upd.drew | apply Upd.alloc) | refine Upd0.tr ?_ (by with_reducible assumption) | refine Upd.setCell ?_ (fun h => absurd h (by first | exact Nat.lt_irrefl _ | (simp only []; omega))) _)⟩
theorem rhost_w (s : Bs) (hm : s.length ≤ 70000) (w : World) : Calls Try.prog 125 #[.string ⟨s.toArray⟩] w (Rets fun r w' => r = .tuple #[.string ⟨(hostS s).toArray⟩, .int .i64 (checkC s)] ∧ Upd0 w w') := by
  go_enter Try.func125, Try.ntmps125
  cases hb : cutB s
  all_goals
    have hC := Lib.hid (show checkC s = _ by rw [checkC, hb])
    have hbh := Lib.hid hb
    clear hb
    go_wp2_with (first
      | (go_at_call 29; refine (rcheck_any s (by unfold maxLen; omega) _).use ?_; rintro v w1 ⟨rfl, hu1⟩; rw [hC.out])
      | fail)
    all_goals go_returns
    all_goals exact ⟨by simp [hostS, hC.out, hbh.out], (by repeat first | with_reducible (first | exact Upd.refl _ _ | assumption | apply Upd.drew | apply Upd.alloc) | refine Upd0.tr ?_ (by with_reducible assumption) | refine Upd.setCell ?_ (fun h => absurd h (by first | exact Nat.lt_irrefl _ | (simp only []; omega))) _)⟩
/-- is the last byte 0? -/
def end0 (s : Bs) : Bool := s.getLast? == some 0
theorem snoc_or (s : Bs) : s = [] ∨ ∃ t c, s = t ++ [c] := by
  rcases List.eq_nil_or_concat s with h | ⟨t, c, h⟩
  · exact .inl h
  · exact .inr ⟨t, c, by rw [h]; simp⟩
theorem hasSuffix_w (s : Bs) (hm : s.length ≤ 70000) (w : World) : Calls Try.prog 129 #[.string ⟨s.toArray⟩, .string ⟨#[0]⟩] w (Rets fun r w' => r = .bool (end0 s) ∧ Upd0 w w') := by
  rcases snoc_or s with rfl | ⟨t, c, rfl⟩
  · go_enter Try.func129, Try.ntmps129
    go_wp2_with (first | fail)
    all_goals go_returns
    exact ⟨rfl, Upd.refl _ _⟩
  · simp only [List.length_append, List.length_cons, List.length_nil] at hm
    go_enter Try.func129, Try.ntmps129
    go_wp2_with (first | fail)
    all_goals go_returns
    exact ⟨by simp [end0, List.take_of_length_le], Upd.refl _ _⟩
def cutSufS (s : Bs) : Bs := if end0 s then s.dropLast else s
theorem cutSuffixI_w (s : Bs) (hm : s.length ≤ 70000) (w : World) : Calls Try.prog 122 #[.string ⟨s.toArray⟩, .string ⟨#[0]⟩] w (Rets fun r w' => r = .tuple #[.string ⟨(cutSufS s).toArray⟩, .bool (end0 s)] ∧ Upd0 w w') := by
  cases hb : end0 s
  all_goals
    have hbh := Lib.hid hb
    go_enter Try.func122, Try.ntmps122
  · clear hb
    go_wp2_with (first
      | (go_at_call 129; refine (hasSuffix_w s hm _).use ?_; rintro v w1 ⟨rfl, hu1⟩; rw [hbh.out])
      | fail)
    all_goals go_returns
    exact ⟨by simp [cutSufS, hbh.out], (by repeat first | with_reducible (first | exact Upd.refl _ _ | assumption | apply Upd.drew | apply Upd.alloc) | refine Upd0.tr ?_ (by with_reducible assumption) | refine Upd.setCell ?_ (fun h => absurd h (by first | exact Nat.lt_irrefl _ | (simp only []; omega))) _)⟩
  · rcases snoc_or s with rfl | ⟨t, c, rfl⟩
    · exact absurd hb (by decide)
    · clear hb
      simp only [List.length_append, List.length_cons, List.length_nil] at hm
      go_wp2_with (first
        | (go_at_call 129; refine (hasSuffix_w (t ++ [c]) (by simp; omega) _).use ?_; rintro v w1 ⟨rfl, hu1⟩; rw [hbh.out])
        | fail)
      all_goals go_returns
      exact ⟨by simp [cutSufS, hbh.out], (by repeat first | with_reducible (first | exact Upd.refl _ _ | assumption | apply Upd.drew | apply Upd.alloc) | refine Upd0.tr ?_ (by with_reducible assumption) | refine Upd.setCell ?_ (fun h => absurd h (by first | exact Nat.lt_irrefl _ | (simp only []; omega))) _)⟩
theorem cutSuffix_w (s : Bs) (hm : s.length ≤ 70000) (w : World) : Calls Try.prog 110 #[.string ⟨s.toArray⟩, .string ⟨#[0]⟩] w (Rets fun r w' => r = .tuple #[.string ⟨(cutSufS s).toArray⟩, .bool (end0 s)] ∧ Upd0 w w') := by
  go_enter Try.func110, Try.ntmps110
  go_wp2_with (first
    | (go_at_call 122; refine (cutSuffixI_w s hm _).use ?_; rintro v w1 ⟨rfl, hu1⟩)
    | fail)
  all_goals go_returns
  exact ⟨rfl, (by repeat first | with_reducible (first | exact Upd.refl _ _ | assumption | apply Upd.drew | apply Upd.alloc) | refine Upd0.tr ?_ (by with_reducible assumption) | refine Upd.setCell ?_ (fun h => absurd h (by first | exact Nat.lt_irrefl _ | (simp only []; omega))) _)⟩
def hostOk (s : Bs) : Bool := end0 s && cutB s.dropLast
theorem dropLast_le (s : Bs) : s.dropLast.length ≤ s.length := by simp
def hostN (s : Bs) : Bs := if hostOk s then s.dropLast else []
theorem hostof_w (s : Bs) (hm : s.length ≤ 70000) (w : World) : Calls Try.prog 96 #[.string ⟨s.toArray⟩] w (Rets fun r w' => r = .tuple #[.string ⟨(hostN s).toArray⟩, .bool (hostOk s)] ∧ Upd0 w w') := by
  have hdl := dropLast_le s
  cases hb : end0 s
  · have hbh := Lib.hid hb
    clear hb
    go_enter Try.func96, Try.ntmps96
    go_wp2_with (first
      | (with_reducible refine wp_serial (by kernel_rfl) (by kernel_rfl) (by repeat with_reducible (first | apply NoBad.then | apply NoBad.inBlock | apply NoBad.jump | exact NoBad.rets)) ?_)
      | (go_at_call 110; refine (cutSuffix_w s hm _).use ?_; rintro v w1 ⟨rfl, hu1⟩; rw [hbh.out])
      | fail)
    all_goals go_returns
    exact ⟨by simp [hostN, hostOk, hbh.out], (by repeat first | with_reducible (first | exact Upd.refl _ _ | assumption | apply Upd.drew | apply Upd.alloc) | refine Upd0.tr ?_ (by with_reducible assumption) | refine Upd.setCell ?_ (fun h => absurd h (by first | exact Nat.lt_irrefl _ | (simp only []; omega))) _)⟩
  · have hbh := Lib.hid hb
    clear hb
    cases hc : cutB s.dropLast
    all_goals
      have hC := Lib.hid (show checkC s.dropLast = _ by rw [checkC, hc])
      have hch := Lib.hid hc
      clear hc
      go_enter Try.func96, Try.ntmps96
      go_wp2_with (first
        | (with_reducible refine wp_serial (by kernel_rfl) (by kernel_rfl) (by repeat with_reducible (first | apply NoBad.then | apply NoBad.inBlock | apply NoBad.jump | exact NoBad.rets)) ?_)
        | (go_at_call 110; refine (cutSuffix_w s hm _).use ?_; rintro v w1 ⟨rfl, hu1⟩; rw [hbh.out, cutSufS, if_pos hbh.out])
        | (go_at_call 80; refine (check_any s.dropLast (by unfold maxLen; omega) _).use ?_; rintro v w2 ⟨rfl, hu2⟩; rw [hC.out])
        | fail)
      all_goals go_returns
      all_goals exact ⟨by simp [hostN, hostOk, hbh.out, hch.out], (by repeat first | with_reducible (first | exact Upd.refl _ _ | assumption | apply Upd.drew | apply Upd.alloc) | refine Upd0.tr ?_ (by with_reducible assumption) | refine Upd.setCell ?_ (fun h => absurd h (by first | exact Nat.lt_irrefl _ | (simp only []; omega))) _)⟩
theorem isHost_w (s : Bs) (hm : s.length ≤ 70000) (w : World) : Calls Try.prog 78 #[.string ⟨s.toArray⟩] w (Rets fun r w' => r = .bool (hostOk s) ∧ Upd0 w w') := by
  rcases snoc_or s with rfl | ⟨t, c, rfl⟩
  · go_enter Try.func78, Try.ntmps78
    go_wp2_with (first | (with_reducible refine wp_serial (by kernel_rfl) (by kernel_rfl) (by repeat with_reducible (first | apply NoBad.then | apply NoBad.inBlock | apply NoBad.jump | exact NoBad.rets)) ?_) | fail)
    all_goals go_returns
    exact ⟨rfl, (by repeat first | with_reducible (first | exact Upd.refl _ _ | assumption | apply Upd.drew | apply Upd.alloc) | refine Upd0.tr ?_ (by with_reducible assumption) | refine Upd.setCell ?_ (fun h => absurd h (by first | exact Nat.lt_irrefl _ | (simp only []; omega))) _)⟩
  · simp only [List.length_append, List.length_cons, List.length_nil] at hm
    by_cases h0 : c = 0
    · subst h0
      cases hc : cutB t
      all_goals
        have hC := Lib.hid (show checkC t = _ by rw [checkC, hc])
        have hfin := Lib.hid (show hostOk (t ++ [0]) = _ by rw [hostOk, List.dropLast_concat, hc, Bool.and_comm])
        clear hc
        go_enter Try.func78, Try.ntmps78
        go_wp2_with (first
          | (with_reducible refine wp_serial (by kernel_rfl) (by kernel_rfl) (by repeat with_reducible (first | apply NoBad.then | apply NoBad.inBlock | apply NoBad.jump | exact NoBad.rets)) ?_)
          | (go_at_call 29; refine (rcheck_any t (by unfold maxLen; omega) _).use ?_; rintro v w2 ⟨rfl, hu2⟩; rw [hC.out])
          | fail)
        all_goals go_returns
        exact ⟨by rw [hfin.out]; simp [end0], (by repeat first | with_reducible (first | exact Upd.refl _ _ | assumption | apply Upd.drew | apply Upd.alloc) | refine Upd0.tr ?_ (by with_reducible assumption) | refine Upd.setCell ?_ (fun h => absurd h (by first | exact Nat.lt_irrefl _ | (simp only []; omega))) _)⟩
    · have hfin := Lib.hid (show hostOk (t ++ [c]) = false by simp [hostOk, end0, h0])
      have hn : ((c.toNat : Int) == 0) = false := by
        rw [beq_eq_false_iff_ne]; intro h; apply h0
        apply UInt8.toNat_inj.1; simpa using h
      clear h0
      go_enter Try.func78, Try.ntmps78
      go_wp2_with (first | (with_reducible refine wp_serial (by kernel_rfl) (by kernel_rfl) (by repeat with_reducible (first | apply NoBad.then | apply NoBad.inBlock | apply NoBad.jump | exact NoBad.rets)) ?_) | fail)
      all_goals go_returns
      exact ⟨by rw [hfin.out]; rfl, (by repeat first | with_reducible (first | exact Upd.refl _ _ | assumption | apply Upd.drew | apply Upd.alloc) | refine Upd0.tr ?_ (by with_reducible assumption) | refine Upd.setCell ?_ (fun h => absurd h (by first | exact Nat.lt_irrefl _ | (simp only []; omega))) _)⟩
def aheadZ (k : Int) : Int := if k = 33 then 6 else if k = 15 then 2 else if k = 2 ∨ k = 5 ∨ k = 12 then 0 else -1
theorem ahead_w (k : Int) (w : World) : Calls Try.prog 95 #[.int .i64 k] w (Rets fun r w' => r = .int .i64 (aheadZ k) ∧ Upd0 w w') := by
  go_enter Try.func95, Try.ntmps95
  go_wp2_with (first | fail)
  all_goals go_returns
  all_goals exact ⟨by simp_all [aheadZ], (by repeat first | with_reducible (first | exact Upd.refl _ _ | assumption | apply Upd.drew | apply Upd.alloc) | refine Upd0.tr ?_ (by with_reducible assumption) | refine Upd.setCell ?_ (fun h => absurd h (by first | exact Nat.lt_irrefl _ | (simp only []; omega))) _)⟩
theorem rahead_w (k : Int) (w : World) : Calls Try.prog 77 #[.int .i64 k] w (Rets fun r w' => r = .int .i64 (aheadZ k) ∧ Upd0 w w') := by
  go_enter Try.func77, Try.ntmps77
  go_wp2_with (first | fail)
  all_goals go_returns
  all_goals exact ⟨by simp_all [aheadZ], (by repeat first | with_reducible (first | exact Upd.refl _ _ | assumption | apply Upd.drew | apply Upd.alloc) | refine Upd0.tr ?_ (by with_reducible assumption) | refine Upd.setCell ?_ (fun h => absurd h (by first | exact Nat.lt_irrefl _ | (simp only []; omega))) _)⟩
theorem aheadZ_or (k : Int) : aheadZ k = -1 ∨ aheadZ k = 0 ∨ aheadZ k = 2 ∨ aheadZ k = 6 := by
  unfold aheadZ; split; simp; split; simp; split <;> simp
/-- the name that a type's data tells: what it is not, or it is -/
def phC (k : Int) (d : Bs) : Int := if aheadZ k < 0 then 5 else if (d.length : Int) < aheadZ k then 2 else if hostOk (d.drop (aheadZ k).toNat) then 0 else 2
def phN (k : Int) (d : Bs) : Bs := if phC k d = 0 then (d.drop (aheadZ k).toNat).dropLast else []
theorem parseHost_w (k : Int) (d : Bs) (hm : d.length ≤ 70000) (w : World) : Calls Try.prog 74 #[.int .i64 k, .string ⟨d.toArray⟩] w (Rets fun r w' => r = .tuple #[.string ⟨(phN k d).toArray⟩, .int .i64 (phC k d)] ∧ Upd0 w w') := by
  have h4 := aheadZ_or k
  rcases h4 with h | h | h | h
  · have hh := Lib.hid h
    clear h
    go_enter Try.func74, Try.ntmps74
    go_wp2_with (first
      | (with_reducible refine wp_serial (by kernel_rfl) (by kernel_rfl) (by repeat with_reducible (first | apply NoBad.then | apply NoBad.inBlock | apply NoBad.jump | exact NoBad.rets)) ?_)
      | (go_at_call 95; refine (ahead_w k _).use ?_; rintro v w1 ⟨rfl, hu1⟩; rw [hh.out])
      | fail)
    all_goals go_returns
    exact ⟨by simp [phN, phC, hh.out], (by repeat first | with_reducible (first | exact Upd.refl _ _ | assumption | apply Upd.drew | apply Upd.alloc) | refine Upd0.tr ?_ (by with_reducible assumption) | refine Upd.setCell ?_ (fun h => absurd h (by first | exact Nat.lt_irrefl _ | (simp only []; omega))) _)⟩
  all_goals
    have hh := Lib.hid h
    have hlt : (d.length : Int) < aheadZ k ∨ aheadZ k ≤ (d.length : Int) := by omega
    rw [h] at hlt
    clear h
    rcases hlt with hlt | hlt
    · go_enter Try.func74, Try.ntmps74
      go_wp2_with (first
        | (with_reducible refine wp_serial (by kernel_rfl) (by kernel_rfl) (by repeat with_reducible (first | apply NoBad.then | apply NoBad.inBlock | apply NoBad.jump | exact NoBad.rets)) ?_)
        | (go_at_call 95; refine (ahead_w k _).use ?_; rintro v w1 ⟨rfl, hu1⟩; rw [hh.out])
        | fail)
      all_goals go_returns
      all_goals exact ⟨by simp [phN, phC, hh.out]; omega, (by repeat first | with_reducible (first | exact Upd.refl _ _ | assumption | apply Upd.drew | apply Upd.alloc) | refine Upd0.tr ?_ (by with_reducible assumption) | refine Upd.setCell ?_ (fun h => absurd h (by first | exact Nat.lt_irrefl _ | (simp only []; omega))) _)⟩
    · obtain ⟨e, he⟩ : ∃ e, d.drop (aheadZ k).toNat = e := ⟨_, rfl⟩
      have hel : e.length ≤ d.length := by rw [← he]; simp
      have hC := Lib.hid (show phC k d = if hostOk e then 0 else 2 by rw [phC, he, hh.out, if_neg (by decide), if_neg (by omega)])
      have hN := Lib.hid (show phN k d = hostN e by
        have : phN k d = if phC k d = 0 then e.dropLast else [] := by rw [phN, he]
        rw [this, hC.out, hostN]; cases hostOk e <;> simp)
      have he2 := he
      rw [hh.out] at he2
      simp only [Int.reduceToNat, List.drop_zero] at he2
      clear he
      cases hok : hostOk e
      all_goals
        have hokh := Lib.hid hok
        clear hok
        go_enter Try.func74, Try.ntmps74
        go_wp2_with (first
          | (with_reducible refine wp_serial (by kernel_rfl) (by kernel_rfl) (by repeat with_reducible (first | apply NoBad.then | apply NoBad.inBlock | apply NoBad.jump | exact NoBad.rets)) ?_)
          | (go_at_call 95; refine (ahead_w k _).use ?_; rintro v w1 ⟨rfl, hu1⟩; rw [hh.out])
          | (go_at_call 96; refine (hostof_w e (by omega) _).use ?_; rintro v w2 ⟨rfl, hu2⟩; rw [hokh.out])
          | fail)
        all_goals go_returns
        all_goals exact ⟨by rw [hC.out, hN.out]; simp [hostN, hokh.out], (by repeat first | with_reducible (first | exact Upd.refl _ _ | assumption | apply Upd.drew | apply Upd.alloc) | refine Upd0.tr ?_ (by with_reducible assumption) | refine Upd.setCell ?_ (fun h => absurd h (by first | exact Nat.lt_irrefl _ | (simp only []; omega))) _)⟩
end Go.Proofs.Ytijmbpokglohbaa

namespace Go.Proofs.Ytijmbpokglohbaa
open Go.RowKit
set_option linter.unusedSimpArgs false
set_option linter.unusedVariables false
def byt (l : Bs) : List Value := l.map fun b => .int .u8 b.toNat
theorem byt_len (l : Bs) : (byt l).length = l.length := by simp [byt]
theorem byt_app (a b : Bs) : byt (a ++ b) = byt a ++ byt b := by simp [byt]
theorem byt_one (l : Bs) : ∀ u ∈ byt l, u.oneCell' = true := by
  intro u hu
  simp only [byt, List.mem_map] at hu
  obtain ⟨b, _, rfl⟩ := hu
  rfl
theorem byt_get {l : Bs} {i : Nat} (h : i < l.length) : (byt l)[i]? = some (.int .u8 l[i].toNat) := by simp [byt, h]
/-- the slice v holds the bytes l, in a block from B on (or is nil); what is frozen of it lies behind its capacity -/
def BR (e : TypeId) (B : Nat) (w : World) (v : Value) (l : Bs) : Prop :=
  (v = .slice none 0 0 ∧ l = []) ∨ ∃ g cap cur fz, v = .slice (some ⟨g, 0, none⟩) l.length cap ∧ B ≤ g ∧ w.heap[g]? = some (.cells cur e fz) ∧ (fz.2 ≤ 0 ∨ cap ≤ fz.1) ∧ l.length ≤ cap ∧ cap ≤ maxLen ∧ cur.size = cap ∧ cur.toList.take l.length = byt l
section
variable {e : TypeId} {B : Nat} {w w' : World} {v : Value} {l : Bs}
theorem BR.isSlice (h : BR e B w v l) : ∃ ao cap, v = .slice ao l.length cap := by
  rcases h with ⟨rfl, rfl⟩ | ⟨g, cap, cur, fz, rfl, _⟩ <;> exact ⟨_, _, rfl⟩
theorem BR.lt (h : BR e B w v l) {g : Nat} (hg : v.ownBlock = some g) : B ≤ g ∧ g < w.heap.size := by
  rcases h with ⟨rfl, rfl⟩ | ⟨g', cap, cur, fz, rfl, h1, h2, _⟩
  · cases hg
  · cases hg; exact ⟨h1, blk_lt h2⟩
theorem BR.upd {S : Nat → Prop} (h : BR e B w v l) (k : Upd S w w') (hS : ∀ g, v.ownBlock = some g → ¬ S g) : BR e B w' v l := by
  rcases h with h | ⟨g, cap, cur, fz, rfl, h1, h2, h3⟩
  · exact .inl h
  · exact .inr ⟨g, cap, cur, fz, rfl, h1, k.block (hS g rfl) h2, h3⟩
theorem BR.up (h : BR e B w v l) (k : Upd0 w w') : BR e B w' v l := h.upd k (fun _ _ h => h)
theorem BR.mono {B' : Nat} (h : BR e B w v l) (hB : B' ≤ B) : BR e B' w v l := by
  rcases h with h | ⟨g, cap, cur, fz, rfl, h1, h2⟩
  · exact .inl h
  · exact .inr ⟨g, cap, cur, fz, rfl, by omega, h2⟩
theorem BR.none0 (e : TypeId) (B : Nat) (w : World) : BR e B w (.slice none 0 0) [] := .inl ⟨rfl, rfl⟩
theorem BR.ptr {ao : Option Addr} {n cap : Nat} (h : BR e B w (.slice ao n cap) l) (hl : 0 < l.length) : ∃ g, ao = some ⟨g, 0, none⟩ ∧ n = l.length := by
  rcases h with ⟨h, rfl⟩ | ⟨g, cap, cur, fz, hv, _⟩
  · simp at hl
  · injection hv with h1 h2; exact ⟨g, h1, h2⟩
theorem BR.cells {g n cap : Nat} (h : BR e B w (.slice (some ⟨g, 0, none⟩) n cap) l) : ∃ cur fz, w.heap[g]? = some (.cells cur e fz) ∧ (fz.2 ≤ 0 ∨ cap ≤ fz.1) ∧ l.length ≤ cap ∧ cap ≤ maxLen ∧ cur.size = cap ∧ cur.toList.take l.length = byt l := by
  rcases h with ⟨h, _⟩ | ⟨g', cap', cur, fz, hv, h1, h2, h3⟩
  · cases h
  · cases hv; exact ⟨cur, fz, h2, h3⟩
theorem BR.cell {g n cap i : Nat} (h : BR e B w (.slice (some ⟨g, 0, none⟩) n cap) l) (hi : i < l.length) : w.cell? ⟨g, i, none⟩ = some (.int .u8 l[i].toNat) := by
  obtain ⟨cur, fz, h1, h2, h3, h4, h5, h6⟩ := h.cells
  have := byt_get hi
  rw [← h6, List.getElem?_take_of_lt hi] at this
  rw [blk_cell h1]; simpa using this
theorem BR.frz {g n cap i : Nat} (h : BR e B w (.slice (some ⟨g, 0, none⟩) n cap) l) (hi : i < l.length) : w.frozen? ⟨g, i, none⟩ = false := by
  obtain ⟨cur, ⟨lo, hh⟩, h1, h2, h3, h4, h5, h6⟩ := h.cells
  simp only [World.frozen?, h1, Bool.and_eq_false_iff, decide_eq_false_iff_not]
  simp only at h2
  omega
theorem BR.setAt {g n cap i : Nat} (h : BR e B w (.slice (some ⟨g, 0, none⟩) n cap) l) (b : UInt8) : BR e B (w.setCell ⟨g, i, none⟩ (.int .u8 b.toNat)) (.slice (some ⟨g, 0, none⟩) n cap) (l.set i b) := by
  rcases h with ⟨h, _⟩ | ⟨g', cap', cur, fz, hv, h1, h2, h3, h4, h5, h6, h7⟩
  · cases h
  · cases hv
    refine .inr ⟨g, cap, _, fz, by rw [List.length_set], h1, blk_set h2 i _, h3, by simpa using h4, h5, by simpa using h6, ?_⟩
    rw [List.length_set, Array.toList_setIfInBounds, List.take_set, h7]
    simp [byt, List.map_set]
/-- storing cells where nothing is frozen -/
theorem run_storeCells_free (P : Program) (g o : Nat) (t : TypeId) (fz : Nat × Nat) : ∀ (vs : List Value) (i : Nat) (cur : Array Value) (w : World), w.heap[g]? = some (.cells cur t fz) → (fz.2 ≤ 0 ∨ o + i + vs.length ≤ fz.1) → o + i + vs.length ≤ cur.size → (∀ v ∈ vs, v.oneCell' = true) →
    (storeCells ⟨g, o, none⟩ vs i).run P w = .ok () (w.setRow g (cur.toList.take (o + i) ++ vs ++ cur.toList.drop (o + i + vs.length)).toArray)
  | [], i, cur, w, hg, _, _, _ => by
    simp only [storeCells, List.append_nil, List.length_nil, Nat.add_zero, List.take_append_drop, Array.toArray_toList]
    rw [setRow_self w g cur t fz hg]; rfl
  | v :: rest, i, cur, w, hg, hfz, hl, h1 => by
    have hi : o + i < cur.size := by simp at hl; omega
    have hadd : (⟨g, o, none⟩ : Addr).add i = ⟨g, o + i, none⟩ := by rw [Addr.add_lit]
    have hcell : w.cell? ⟨g, o + i, none⟩ = some cur[o + i] := by rw [blk_cell hg]; simp [hi]
    have hfro : w.frozen? ⟨g, o + i, none⟩ = false := by
      obtain ⟨lo, hh⟩ := fz
      simp only [World.frozen?, hg, Bool.and_eq_false_iff, decide_eq_false_iff_not]
      simp only [List.length_cons] at hfz
      omega
    have hst : (store ((⟨g, o, none⟩ : Addr).add i) v).run P w = .ok () (w.setRow g (cur.setIfInBounds (o + i) v)) := by
      rw [hadd, run_store P w _ v _ (h1 v (by simp)), hcell]
      simp [hfro, setCell_eq_setRow w g (o + i) cur t fz v hg]
    have ih := run_storeCells_free P g o t fz rest (i + 1) (cur.setIfInBounds (o + i) v) (w.setRow g (cur.setIfInBounds (o + i) v)) (setRow_heap w g cur _ t _ hg) (by simp at hfz; omega) (by simp at hl ⊢; omega) (fun x hx => h1 x (by simp [hx]))
    simp only [storeCells, Sem.run_bind, hst, Result.andThen_ok, ih, setRow_setRow]
    congr 3
    have e := list_seg_step cur.toList (o + i) v rest (by simp at hl ⊢; omega)
    simpa [Array.toList_setIfInBounds, Nat.add_assoc] using e
/-- what a row becomes by bytes behind its length -/
theorem BR.room {g n cap : Nat} {cur : Array Value} {fz : Nat × Nat} {news : Bs} (hg : w.heap[g]? = some (.cells cur e fz)) (hB : B ≤ g) (hz : fz.2 ≤ 0 ∨ cap ≤ fz.1) (hm : cap ≤ maxLen) (hs : cur.size = cap) (ht : cur.toList.take l.length = byt l) (hroom : l.length + news.length ≤ cap) :
    BR e B (w.setRow g (cur.toList.take l.length ++ byt news ++ cur.toList.drop (l.length + (byt news).length)).toArray) (.slice (some ⟨g, 0, none⟩) (l.length + news.length) cap) (l ++ news) := by
  refine .inr ⟨g, cap, _, fz, by simp, hB, setRow_heap w g cur _ e _ hg, hz, by simpa using hroom, hm, ?_, ?_⟩
  · simp only [List.size_toArray, List.length_append, List.length_take, List.length_drop, Array.length_toList, byt_len]; omega
  · simp only []
    rw [ht, ← byt_app, show (l ++ news).length = (byt (l ++ news)).length by rw [byt_len]]
    exact List.take_left
theorem BR.grow {cap : Nat} {news : Bs} {X : List Value} {W : World} (hB : B ≤ w.heap.size) (hc : l.length + news.length ≤ cap) (hm : cap ≤ maxLen) (hX : X.length = cap - (l.length + news.length)) (hW : W.heap = w.heap) :
    BR e B (W.alloc (.cells ((byt l).toArray ++ (byt news).toArray ++ X.toArray) e)) (.slice (some ⟨w.heap.size, 0, none⟩) (l.length + news.length) cap) (l ++ news) := by
  refine .inr ⟨w.heap.size, cap, (byt l).toArray ++ (byt news).toArray ++ X.toArray, (0, 0), by simp, hB, ?_, .inl (Nat.le_refl _), by simpa using hc, hm, ?_, ?_⟩
  · exact alloc_last _ _ _ (by rw [hW])
  · simp only [Array.size_append, List.size_toArray, byt_len, hX]; omega
  · simp only [Array.toList_append]
    rw [← byt_app, show (l ++ news).length = (byt (l ++ news)).length by rw [byt_len]]
    exact List.take_left
end
theorem zc_len (n : Nat) : (Builtin.zeroCells (Value.int .u8 0).cells n).toList.length = n := by
  have h : (Value.int .u8 0).cells.size = 1 := rfl
  simp [Builtin.zeroCells, h]
theorem byt_str (l : Bs) : Lib.strCells ⟨l.toArray⟩ = byt l := by simp [Lib.strCells, byt]
section
variable {P : Program}
/-- append bytes that lie in memory -/
theorem run_appB {W : World} (t ty e : TypeId) (i : TypeInfo) (ht : P.underlying t = some (.slice e)) (hi : P.info? e = some i) (hz : i.zero = some (.int .u8 0)) (hs : i.size = 1) (hb : i.bytes = 1)
    {B : Nat} {v : Value} {l news : Bs} (h : BR e B W v l) (hB : B ≤ W.heap.size) (ad : Addr) (m c : Nat) (hm : m = news.length) (hn : ∀ j u, (byt news)[j]? = some u → W.cell? (ad.add j) = some u) (hbig : l.length + news.length ≤ 140737488355328) :
    ∃ v' W', (Builtin.append_ #[t, t] ty #[v, .slice (some ad) m c]).run P W = .ok v' W' ∧ BR e B W' v' (l ++ news) ∧ Upd (fun k => v.ownBlock = some k) W W' ∧ (∃ ao cap, v' = .slice ao (l.length + news.length) cap) ∧ Fresh W v v' := by
  subst hm
  have hml : (140737488355328 : Nat) ≤ maxLen := by unfold maxLen; decide
  have hl1 : (byt news).length = news.length * i.size := by rw [byt_len, hs, Nat.mul_one]
  rcases h with ⟨rfl, rfl⟩ | ⟨g, cap, cur, fz, rfl, hgB, hg, hz1, hnc, hcm, hcs, htk⟩
  · by_cases h0 : news.length = 0
    · have : news = [] := List.eq_nil_of_length_eq_zero h0
      subst this
      refine ⟨.slice none 0 0, W, ?_, BR.none0 _ _ _, Upd.refl _ _, ⟨none, 0, rfl⟩, Fresh.refl _ _⟩
      simp [Builtin.append_, run_underlying ht, sizeOf, typeInfo, hi, Builtin.lenOf, run_firstCells_none, Builtin.firstCells, loadCells, loadCellsFrom, storeCells, Sem.run_pure]
    · have hr := run_append_nil (P := P) W t ty e i (.int .u8 0) ht hi hz ad news.length c (byt news) hl1 hn (by omega) (by omega) (by rw [hb]; simp only [List.length_nil] at hbig; omega)
      have hge := grownCap_ge W news.length 0 e
      have hgm := grownCap_le_maxLen W news.length 0 e (by simp only [List.length_nil] at hbig; omega)
      refine ⟨_, _, hr, ?_, ⟨rfl, rfl, rfl, by simp, fun k hk _ => Below.heap_alloc W.drew _ k hk⟩, ⟨_, _, by rw [List.length_nil, Nat.zero_add]⟩, fun k hk => by simp [Value.ownBlock] at hk; right; omega⟩
      have := BR.grow (e := e) (B := B) (w := W) (l := []) (news := news) (cap := grownCap W news.length 0 e) (X := (Builtin.zeroCells (Value.int .u8 0).cells (grownCap W news.length 0 e - news.length)).toList) (W := W.drew) hB (by simpa using hge) hgm (by rw [zc_len, List.length_nil, Nat.zero_add]) rfl
      simpa [byt] using this
  · by_cases hroom : l.length + news.length ≤ cap
    · have hf := run_firstCells_some (P := P) W i.size news.length ad news.length c (byt news) hl1 hn
      have hst := run_storeCells_free P g l.length e fz (byt news) 0 cur W hg (by rw [byt_len]; omega) (by rw [byt_len]; omega) (byt_one news)
      simp only [Nat.add_zero] at hst
      have hr : (Builtin.append_ #[t, t] ty #[.slice (some ⟨g, 0, none⟩) l.length cap, .slice (some ad) news.length c]).run P W = .ok (.slice (some ⟨g, 0, none⟩) (l.length + news.length) cap) (W.setRow g (cur.toList.take l.length ++ byt news ++ cur.toList.drop (l.length + (byt news).length)).toArray) := by
        rw [hs] at hf
        simp [Builtin.append_, run_underlying ht, sizeOf, typeInfo, hi, hs, Builtin.lenOf, hroom, hf, Addr.add_lit, hst]
      exact ⟨_, _, hr, BR.room (n := l.length) hg hgB hz1 hcm hcs htk hroom, (Upd.refl (fun k => (Value.slice (some ⟨g, 0, none⟩) l.length cap).ownBlock = some k) W).setRow (g := g) (fun _ => rfl) _, ⟨_, _, rfl⟩, fun k hk => .inl hk⟩
    · have holds : ∀ j u, (byt l)[j]? = some u → W.cell? ((⟨g, 0, none⟩ : Addr).add j) = some u := by
        intro j u hu
        rw [← htk] at hu
        rw [Addr.add_lit, Nat.zero_add, blk_cell hg]
        rw [List.getElem?_take] at hu
        split at hu
        · simpa using hu
        · cases hu
      have hr := run_append_grow (P := P) W t ty e i (.int .u8 0) ht hi hz ⟨g, 0, none⟩ l.length cap (byt l) (by rw [byt_len, hs, Nat.mul_one]) holds ad news.length c (byt news) hl1 hn (by omega) (by omega) (by rw [hb]; exact growslice_fits (by omega) (by omega))
      have hge := grownCap_ge W (l.length + news.length) cap e
      have hgm := grownCap_le_maxLen W (l.length + news.length) cap e (by omega)
      refine ⟨_, _, hr, ?_, ⟨rfl, rfl, rfl, by simp, fun k hk _ => Below.heap_alloc W.drew _ k hk⟩, ⟨_, _, rfl⟩, fun k hk => by simp [Value.ownBlock] at hk; right; omega⟩
      have := BR.grow (e := e) (B := B) (w := W) (l := l) (news := news) (cap := grownCap W (l.length + news.length) cap e) (X := (Builtin.zeroCells (Value.int .u8 0).cells (grownCap W (l.length + news.length) cap e - (l.length + news.length))).toList) (W := W.drew) hB hge hgm (zc_len _) rfl
      simpa using this
/-- append a string -/
theorem run_appS {W : World} (t u ty e : TypeId) (i : TypeInfo) (ht : P.underlying t = some (.slice e)) (hu : P.underlying u = some .string) (hi : P.info? e = some i) (hz : i.zero = some (.int .u8 0)) (hs : i.size = 1) (hb : i.bytes = 1)
    {B : Nat} {v : Value} {l news : Bs} (h : BR e B W v l) (hB : B ≤ W.heap.size) (hbig : l.length + news.length ≤ 140737488355328) :
    ∃ v' W', (Builtin.append_ #[t, u] ty #[v, .string ⟨news.toArray⟩]).run P W = .ok v' W' ∧ BR e B W' v' (l ++ news) ∧ Upd (fun k => v.ownBlock = some k) W W' ∧ (∃ ao cap, v' = .slice ao (l.length + news.length) cap) ∧ Fresh W v v' := by
  have hml : (140737488355328 : Nat) ≤ maxLen := by unfold maxLen; decide
  rcases h with ⟨rfl, rfl⟩ | ⟨g, cap, cur, fz, rfl, hgB, hg, hz1, hnc, hcm, hcs, htk⟩
  · simp only [List.length_nil, Nat.zero_add] at hbig
    obtain ⟨v', W', hr, ho, hgr, hnil⟩ := Lib.run_append_own_string (P := P) W W.heap.size t u ty e i ht hu hi hz hs hb (.slice none 0 0) 0 [] (World.ownsRow_nil _ _ _ _) ⟨news.toArray⟩ (by simp [ByteArray.size]; omega) (by simp [ByteArray.size]; omega) (Nat.le_refl _)
    have hsz : (⟨news.toArray⟩ : ByteArray).size = news.length := rfl
    rw [hsz, byt_str] at ho
    refine ⟨v', W', hr, ?_, ⟨hgr.os, hgr.tape, hgr.output, hgr.size, fun k hk _ => hgr.block k hk (by simp [Value.ownBlock])⟩, ?_, fun k hk => .inr (ho.lt k hk).1⟩
    · rcases ho.2 with ⟨rfl, hn⟩ | ⟨g, cap, cur, rfl, hb1, hb2, hb3, hb4, hb5, hb6⟩
      · have : news = [] := List.eq_nil_of_length_eq_zero (by omega)
        subst this; exact BR.none0 _ _ _
      · refine .inr ⟨g, cap, cur, (0, 0), by simp, by omega, hb2, .inl (Nat.le_refl _), by simpa using hb3, hb4, by simpa using hb5, ?_⟩
        simpa using hb6
    · obtain ⟨ao, cap, rfl⟩ := ownsRow_slice ho
      exact ⟨ao, cap, by simp⟩
  · by_cases hroom : l.length + news.length ≤ cap
    · have hf := Lib.run_firstCells_string (P := P) W 1 ⟨news.toArray⟩
      rw [byt_str] at hf
      have hst := run_storeCells_free P g l.length e fz (byt news) 0 cur W hg (by rw [byt_len]; omega) (by rw [byt_len]; omega) (byt_one news)
      simp only [Nat.add_zero] at hst
      have hr : (Builtin.append_ #[t, u] ty #[.slice (some ⟨g, 0, none⟩) l.length cap, .string ⟨news.toArray⟩]).run P W = .ok (.slice (some ⟨g, 0, none⟩) (l.length + news.length) cap) (W.setRow g (cur.toList.take l.length ++ byt news ++ cur.toList.drop (l.length + (byt news).length)).toArray) := by
        have hsz : (⟨news.toArray⟩ : ByteArray).size = news.length := rfl
        rw [hsz] at hf
        simp [Builtin.append_, run_underlying ht, run_underlying hu, sizeOf, typeInfo, hi, hs, Builtin.lenOf, hsz, hroom, hf, Addr.add_lit, hst]
      exact ⟨_, _, hr, BR.room (n := l.length) hg hgB hz1 hcm hcs htk hroom, (Upd.refl (fun k => (Value.slice (some ⟨g, 0, none⟩) l.length cap).ownBlock = some k) W).setRow (g := g) (fun _ => rfl) _, ⟨_, _, rfl⟩, fun k hk => .inl hk⟩
    · have holds : ∀ j u, (byt l)[j]? = some u → W.cell? ((⟨g, 0, none⟩ : Addr).add j) = some u := by
        intro j u hu
        rw [← htk] at hu
        rw [Addr.add_lit, Nat.zero_add, blk_cell hg]
        rw [List.getElem?_take] at hu
        split at hu
        · simpa using hu
        · cases hu
      have hsz : (⟨news.toArray⟩ : ByteArray).size = news.length := rfl
      have hr := Lib.run_append_grow_string (P := P) W t u ty e i (.int .u8 0) ht hu hi hz ⟨g, 0, none⟩ l.length cap (byt l) (by rw [byt_len, hs, Nat.mul_one]) holds ⟨news.toArray⟩ (by rw [hsz]; omega) (by rw [hsz]; omega) (by rw [hb, hsz]; exact growslice_fits (by omega) (by omega))
      rw [hsz, byt_str] at hr
      have hge := grownCap_ge W (l.length + news.length) cap e
      have hgm := grownCap_le_maxLen W (l.length + news.length) cap e (by omega)
      refine ⟨_, _, hr, ?_, ⟨rfl, rfl, rfl, by simp, fun k hk _ => Below.heap_alloc W.drew _ k hk⟩, ⟨_, _, rfl⟩, fun k hk => by simp [Value.ownBlock] at hk; right; omega⟩
      have := BR.grow (e := e) (B := B) (w := W) (l := l) (news := news) (cap := grownCap W (l.length + news.length) cap e) (X := (Builtin.zeroCells (Value.int .u8 0).cells (grownCap W (l.length + news.length) cap e - (l.length + news.length))).toList) (W := W.drew) hB hge hgm (zc_len _) rfl
      simpa using this
variable {ops : Array Oper} {rest : List Oper} {o : Oper} {a : Act} {Q : Exit → Act → World → Prop}
theorem wpList_appB {W : World} (hgd : o.guard = none) (s x : Operand) (t : TypeId)
    (ho : o.op = .call { callee := .builtin .append, args := #[s, x], argTypes := #[t, t] })
    (e : TypeId) (i : TypeInfo) (ht : P.underlying t = some (.slice e)) (hi : P.info? e = some i) (hz : i.zero = some (.int .u8 0)) (hs : i.size = 1) (hb : i.bytes = 1)
    {B : Nat} {v : Value} {l : Bs} (news : Bs) (hv : a.eval s = v) (h : BR e B W v l) (hB : B ≤ W.heap.size) (g m c : Nat) (C : Array Value) (hx : a.eval x = .slice (some ⟨g, 0, none⟩) m c) (hg : W.heap[g]? = some (.cells C e (0, 0))) (hC : C.toList = byt news) (hm : m = news.length) (hbig : l.length + news.length ≤ 140737488355328)
    (k : ∀ ao' cap' W', BR e B W' (.slice ao' (l.length + news.length) cap') (l ++ news) → Upd (fun k => v.ownBlock = some k) W W' → Fresh W v (.slice ao' (l.length + news.length) cap') → wpList P ops Q rest (a.put o.dst (.slice ao' (l.length + news.length) cap')) W') : wpList P ops Q (o :: rest) a W :=
  wpList_plain hgd fun _ hK => by
    obtain ⟨v', W', hr, h2, h3, ⟨ao', cap', rfl⟩, h4⟩ := run_appB (P := P) t o.type e i ht hi hz hs hb h hB ⟨g, 0, none⟩ m c hm (fun j u hu => by rw [Addr.add_lit, Nat.zero_add, blk_cell hg]; rw [← hC] at hu; simpa using hu) hbig
    unfold Oper.wp execOp
    simp only [ho, resolve, invoke, builtin, Sem.run_bind, Sem.run_pure, Result.andThen_ok, List.map_toArray, List.map_cons, List.map_nil, hv, hx, hr]
    exact hK _ _ (k ao' cap' W' h2 h3 h4)
theorem wpList_appS {W : World} (hgd : o.guard = none) (s x : Operand) (t u : TypeId)
    (ho : o.op = .call { callee := .builtin .append, args := #[s, x], argTypes := #[t, u] })
    (e : TypeId) (i : TypeInfo) (ht : P.underlying t = some (.slice e)) (hu : P.underlying u = some .string) (hi : P.info? e = some i) (hz : i.zero = some (.int .u8 0)) (hs : i.size = 1) (hb : i.bytes = 1)
    {B : Nat} {v : Value} {l : Bs} (news : Bs) (hv : a.eval s = v) (h : BR e B W v l) (hB : B ≤ W.heap.size) (hx : a.eval x = .string ⟨news.toArray⟩) (hbig : l.length + news.length ≤ 140737488355328)
    (k : ∀ ao' cap' W', BR e B W' (.slice ao' (l.length + news.length) cap') (l ++ news) → Upd (fun k => v.ownBlock = some k) W W' → Fresh W v (.slice ao' (l.length + news.length) cap') → wpList P ops Q rest (a.put o.dst (.slice ao' (l.length + news.length) cap')) W') : wpList P ops Q (o :: rest) a W :=
  wpList_plain hgd fun _ hK => by
    obtain ⟨v', W', hr, h2, h3, ⟨ao', cap', rfl⟩, h4⟩ := run_appS (P := P) t u o.type e i ht hu hi hz hs hb h hB hbig
    unfold Oper.wp execOp
    simp only [ho, resolve, invoke, builtin, Sem.run_bind, Sem.run_pure, Result.andThen_ok, List.map_toArray, List.map_cons, List.map_nil, hv, hx, hr]
    exact hK _ _ (k ao' cap' W' h2 h3 h4)
/-- a string's bytes, in a slice of their own -/
theorem run_toB {W : World} (src dst e : TypeId) {u : TypeDesc} (l : Bs) (hs : P.underlying src = some u) (hd : P.underlying dst = some (.slice e)) (he : P.underlying e = some (.int .u8)) (hm : l.length ≤ maxLen) :
    ∃ cap W', (convert src dst (.string ⟨l.toArray⟩)).run P W = .ok (.slice (some ⟨W.heap.size, 0, none⟩) l.length cap) W' ∧ BR e W.heap.size W' (.slice (some ⟨W.heap.size, 0, none⟩) l.length cap) l ∧ Upd0 W W' ∧ W'.heap.size = W.heap.size + 1 := by
  have hr := Lib.run_convert_string_bytes (P := P) W src dst e ⟨l.toArray⟩ hs hd he
  have hsz : (⟨l.toArray⟩ : ByteArray).size = l.length := rfl
  have hge := grownCap_ge W l.length 0 e
  have hgm := grownCap_le_maxLen W l.length 0 e hm
  have hcs : (Lib.bytesCells W e ⟨l.toArray⟩).size = grownCap W l.length 0 e := by
    simp only [Lib.bytesCells, Array.size_append, Array.size_map, Array.size_replicate, hsz]
    simp; omega
  refine ⟨_, _, hr, .inr ⟨W.heap.size, _, _, _, rfl, Nat.le_refl _, Lib.bytesWorld_at_new _ _ _, .inr (by rw [hcs]; exact Nat.le_refl _), hge, hgm, hcs, ?_⟩, ⟨rfl, rfl, rfl, by rw [Lib.bytesWorld_size]; omega, fun k hk _ => Lib.bytesWorld_at_old _ _ _ _ hk⟩, Lib.bytesWorld_size _ _ _⟩
  simp only [Lib.bytesCells, Array.toList_append]
  rw [List.take_append_of_le_length (by simp), List.take_of_length_le (by simp)]
  simp [byt]
theorem wpList_toB {W : World} (hgd : o.guard = none) (x : Operand) (src dst : TypeId) (ho : o.op = .convert src dst x) (e : TypeId) {u : TypeDesc} (hs : P.underlying src = some u) (hd : P.underlying dst = some (.slice e)) (he : P.underlying e = some (.int .u8))
    (l : Bs) (hx : a.eval x = .string ⟨l.toArray⟩) (hm : l.length ≤ maxLen)
    (k : ∀ cap W', BR e W.heap.size W' (.slice (some ⟨W.heap.size, 0, none⟩) l.length cap) l → Upd0 W W' → W'.heap.size = W.heap.size + 1 → wpList P ops Q rest (a.put o.dst (.slice (some ⟨W.heap.size, 0, none⟩) l.length cap)) W') : wpList P ops Q (o :: rest) a W :=
  wpList_plain hgd fun _ hK => by
    obtain ⟨cap, W', hr, h1, h2, h3⟩ := run_toB (P := P) (W := W) src dst e l hs hd he hm
    unfold Oper.wp execOp
    simp only [ho, hx, Sem.run_bind, Sem.run_pure, Sem.run_map, hr, Result.andThen_ok, Oper.upon]
    exact hK _ _ (k cap W' h1 h2 h3)
theorem run_ofB {W : World} (src dst e : TypeId) (hs : P.underlying src = some (.slice e)) (he : P.underlying e = some (.int .u8)) (hd : P.underlying dst = some .string) {B : Nat} {v : Value} {l : Bs} (h : BR e B W v l) :
    (convert src dst v).run P W = .ok (.string ⟨l.toArray⟩) W := by
  rcases h with ⟨rfl, rfl⟩ | ⟨g, cap, cur, fz, rfl, hgB, hg, hz1, hnc, hcm, hcs, htk⟩
  · rw [run_convert_bytes_string W src dst e none 0 0 hs he hd]
    simp [Conv.bytesToString, Sem.run_pure]; rfl
  · refine run_convert_bytes_back W src dst e ⟨g, 0, none⟩ cap l hs he hd (fun j hj => ?_)
    have := byt_get hj
    rw [← htk, List.getElem?_take_of_lt hj] at this
    rw [Addr.add_lit, Nat.zero_add, blk_cell hg]; simpa using this
theorem wpList_ofB {W : World} (hgd : o.guard = none) (x : Operand) (src dst : TypeId) (ho : o.op = .convert src dst x) (e : TypeId) (hs : P.underlying src = some (.slice e)) (he : P.underlying e = some (.int .u8)) (hd : P.underlying dst = some .string)
    {B : Nat} {v : Value} {l : Bs} (hx : a.eval x = v) (h : BR e B W v l)
    (k : wpList P ops Q rest (a.put o.dst (.string ⟨l.toArray⟩)) W) : wpList P ops Q (o :: rest) a W :=
  wpList_plain hgd fun _ hK => by
    have hr := run_ofB (P := P) src dst e hs he hd h
    unfold Oper.wp execOp
    simp only [ho, hx, Sem.run_bind, Sem.run_pure, Sem.run_map, hr, Result.andThen_ok, Oper.upon]
    exact hK _ _ k
end
end Go.Proofs.Ytijmbpokglohbaa

namespace Go.Proofs.Ytijmbpokglohbaa
open Go.RowKit
theorem info_u8 : (Try.prog.info? 5).map (fun i => (i.zero, i.size, i.bytes)) = some (some (.int .u8 0), 1, 1) := by kernel_rfl
end Go.Proofs.Ytijmbpokglohbaa

namespace Go.Proofs.Ytijmbpokglohbaa
open Go.RowKit
set_option linter.unusedSimpArgs false
set_option linter.unusedVariables false
def w4 (n : Nat) : Bs := [UInt8.ofNat (n / 16777216), UInt8.ofNat (n / 65536), UInt8.ofNat (n / 256), UInt8.ofNat n]
def num (l : Bs) : Nat := l.foldl (fun n b => 256 * n + b.toNat) 0
theorem w4_cells {n : Nat} (hn : n < 4294967296) : ([.int .u8 ((n : Int) / 16777216), .int .u8 ((n : Int) / 65536 % 256), .int .u8 ((n : Int) / 256 % 256), .int .u8 ((n : Int) % 256)] : List Value) = byt (w4 n) := by
  simp only [byt, w4, List.map_cons, List.map_nil, UInt8.toNat_ofNat']
  congr 2
  · congr 1; omega
set_option maxRecDepth 100000 in
theorem long_w (B : Nat) (v : Value) (l : Bs) (n : Nat) (w : World) (h : BR 5 B w v l) (hB : B ≤ w.heap.size) (hn : n < 4294967296) (hl : l.length ≤ 1000000) :
    Calls Try.prog 124 #[v, .int .i64 n] w (Rets fun r w' => ∃ ao cap, r = .slice ao (l.length + 4) cap ∧ BR 5 B w' r (l ++ w4 n) ∧ Upd (fun k => v.ownBlock = some k) w w' ∧ Fresh w v r) := by
  obtain ⟨i0, hi, hz0, hz1, hz2⟩ := info_parts info_u8
  obtain ⟨ao, cap, rfl⟩ := h.isSlice
  have hh := Lib.hid h
  clear h
  go_enter Try.func124, Try.ntmps124
  go_wp2_with (first
    | (at_builtin; refine wpList_appB rfl (.tmp 5) (.tmp 17) 95 rfl 5 i0 Try.underlying95 hi hz0 hz1 hz2 (w4 n) rfl (hh.out.up (by repeat first | with_reducible (first | exact Upd.refl _ _ | assumption | apply Upd.drew | apply Upd.alloc) | refine Upd0.tr ?_ (by with_reducible assumption) | refine Upd.setCell ?_ (fun h => absurd h (by first | exact Nat.lt_irrefl _ | (simp only []; omega))) _)) (by simp only [World.size_alloc]; omega) w.heap.size 4 4 _ rfl (alloc_last _ _ _ (by simp)) (w4_cells hn) rfl (by simp [w4]; omega) ?_; intro ao' cap' w1 hb1 hu1 hf1; have hb1h := Lib.hid hb1; have hf1h := Lib.hid hf1; clear hb1 hf1)
    | (with_reducible refine wp_serial (by kernel_rfl) (by kernel_rfl) (by repeat with_reducible (first | apply NoBad.then | apply NoBad.inBlock | apply NoBad.jump | exact NoBad.rets)) ?_)
    | fail)
  go_returns
  exact ⟨ao', cap', rfl, hb1h.out, Upd.trans ((Upd.refl (fun k => (Value.slice ao l.length cap).ownBlock = some k) w).alloc _) hu1 (fun _ _ h => h), Fresh.trans (Fresh.refl _ _) hf1h.out (by simp)⟩
def textsB : Nat → Bs → Bool
  | _, [] => true
  | 0, _ :: _ => false
  | f + 1, k :: t => decide (k.toNat ≤ t.length) && textsB f (t.drop k.toNat)
theorem textsB_more : ∀ (f : Nat) (s : Bs), s.length ≤ f → textsB f s = textsB s.length s
  | 0, s, h => by
    have : s = [] := List.eq_nil_of_length_eq_zero (by omega)
    subst this; rfl
  | f + 1, [], _ => rfl
  | f + 1, k :: t, h => by
    simp only [List.length_cons] at h
    simp only [textsB, List.length_cons]
    congr 1
    rw [textsB_more f (t.drop k.toNat) (by simp; omega), ← textsB_more t.length (t.drop k.toNat) (by simp)]
def texO (s : Bs) : Bool := textsB s.length s
theorem texO_nil : texO [] = true := rfl
theorem texO_cons (k : UInt8) (t : Bs) : texO (k :: t) = (decide (k.toNat ≤ t.length) && texO (t.drop k.toNat)) := by
  unfold texO
  simp only [List.length_cons, textsB]
  rw [textsB_more t.length _ (by simp)]
def texts (s : Bs) : Bool := !s.isEmpty && texO s
set_option maxRecDepth 100000 in
theorem texts_w (s : Bs) (hm : s.length ≤ 70000) (w : World) : Calls Try.prog 97 #[.string ⟨s.toArray⟩] w (Rets fun r w' => r = .bool (texts s) ∧ Upd0 w w') := by
  go_enter Try.func97, Try.ntmps97
  go_wp2_with (first | (with_reducible refine wp_serial (by kernel_rfl) (by kernel_rfl) (by repeat with_reducible (first | apply NoBad.then | apply NoBad.inBlock | apply NoBad.jump | exact NoBad.rets)) ?_) | fail)
  go_loop [0] (fun x => ∃ t : Bs, x = .string ⟨t.toArray⟩ ∧ t.length ≤ s.length ∧ Hid (texO s = texO t)) (fun x => match x with | .string s => s.size | _ => 0)
  case atStart => exact ⟨s, rfl, Nat.le_refl _, Lib.hid rfl⟩
  case round =>
    obtain ⟨t, rfl, hts, ht⟩ := hrel
    cases t with
    | nil =>
      go_wp2_with (first | (with_reducible refine wp_serial (by kernel_rfl) (by kernel_rfl) (by repeat with_reducible (first | apply NoBad.then | apply NoBad.inBlock | apply NoBad.jump | exact NoBad.rets)) ?_) | fail)
      all_goals go_returns
      exact ⟨by simp [texts, ht.out, texO_nil], Upd.refl _ _⟩
    | cons k t =>
      simp only [List.length_cons] at hts
      have hkb := k.toNat_lt
      have hd := Lib.hid (show List.drop (1 + k.toNat) (k :: t) = t.drop k.toNat by rw [Nat.add_comm]; rfl)
      rcases Nat.lt_or_ge t.length k.toNat with hk | hk
      · go_wp2_with (first | (with_reducible refine wp_serial (by kernel_rfl) (by kernel_rfl) (by repeat with_reducible (first | apply NoBad.then | apply NoBad.inBlock | apply NoBad.jump | exact NoBad.rets)) ?_) | fail)
        all_goals go_returns
        have : ¬ k.toNat ≤ t.length := by omega
        exact ⟨by simp [texts, ht.out, texO_cons, this], Upd.refl _ _⟩
      · go_wp2_with (first | (with_reducible refine wp_serial (by kernel_rfl) (by kernel_rfl) (by repeat with_reducible (first | apply NoBad.then | apply NoBad.inBlock | apply NoBad.jump | exact NoBad.rets)) ?_) | fail)
        go_round
        case rel => exact ⟨t.drop k.toNat, by rw [hd.out], by simp; omega, Lib.hid (by rw [ht.out, texO_cons]; simp [hk])⟩
        case measure => rw [hd.out]; simp only [ByteArray.size, List.size_toArray, List.length_drop, List.length_cons]; omega
set_option maxRecDepth 100000 in
theorem rtexts_w (s : Bs) (hm : s.length ≤ 70000) (w : World) : Calls Try.prog 100 #[.string ⟨s.toArray⟩] w (Rets fun r w' => r = .bool (texts s) ∧ Upd0 w w') := by
  go_enter Try.func100, Try.ntmps100
  go_wp2_with (first | (with_reducible refine wp_serial (by kernel_rfl) (by kernel_rfl) (by repeat with_reducible (first | apply NoBad.then | apply NoBad.inBlock | apply NoBad.jump | exact NoBad.rets)) ?_) | fail)
  go_loop [3] (fun x => ∃ i : Nat, x = .int .i64 i ∧ i ≤ s.length + 300 ∧ Hid (texO s = (decide (i ≤ s.length) && texO (s.drop i)))) (fun x => s.length - (intOf x).toNat)
  case atStart => exact ⟨0, rfl, by omega, Lib.hid (by simp)⟩
  case round =>
    obtain ⟨i, rfl, hil, ht⟩ := hrel
    by_cases hlt : i < s.length
    · obtain ⟨k, t, hkt, hk, htl, hlen1, hlen2⟩ := drop_facts hlt
      have hkth := Lib.hid hkt
      have htlh := Lib.hid htl
      have hkb := k.toNat_lt
      clear hkt htl
      go_wp2_with (first | (with_reducible refine wp_serial (by kernel_rfl) (by kernel_rfl) (by repeat with_reducible (first | apply NoBad.then | apply NoBad.inBlock | apply NoBad.jump | exact NoBad.rets)) ?_) | fail)
      go_round
      case rel => exact ⟨i + 1 + k.toNat, by go_num, by omega, Lib.hid (by
        rw [ht.out, hkth.out, texO_cons, ← List.drop_drop, htlh.out]
        have : decide (i ≤ s.length) = true := by simp; omega
        rw [this, Bool.true_and]
        congr 1
        rw [decide_eq_decide]; omega)⟩
      case measure => simp [intOf]; omega
    · cases hse : s.isEmpty
      · have hse2 : (!s.isEmpty) = true := by rw [hse]; rfl
        have h2 : (i : Int) = s.length ∨ (s.length : Int) < i := by omega
        rcases h2 with h2 | h2
        · have h3 : i = s.length := by omega
          have h4 := Lib.hid (show texO s = true by rw [ht.out, h3]; simp [texO_nil])
          subst h3
          clear h2
          go_wp2_with (first | (with_reducible refine wp_serial (by kernel_rfl) (by kernel_rfl) (by repeat with_reducible (first | apply NoBad.then | apply NoBad.inBlock | apply NoBad.jump | exact NoBad.rets)) ?_) | fail)
          go_returns
          exact ⟨by simp [texts, h4.out, hse], Upd.refl _ _⟩
        · have hb : ((i : Int) == s.length) = false := by rw [beq_eq_false_iff_ne]; omega
          have h4 := Lib.hid (show texO s = false by rw [ht.out]; simp; omega)
          go_wp2_with (first | (with_reducible refine wp_serial (by kernel_rfl) (by kernel_rfl) (by repeat with_reducible (first | apply NoBad.then | apply NoBad.inBlock | apply NoBad.jump | exact NoBad.rets)) ?_) | fail)
          go_returns
          exact ⟨by simp [texts, h4.out], Upd.refl _ _⟩
      · have hse2 : (!s.isEmpty) = false := by rw [hse]; rfl
        go_wp2_with (first | (with_reducible refine wp_serial (by kernel_rfl) (by kernel_rfl) (by repeat with_reducible (first | apply NoBad.then | apply NoBad.inBlock | apply NoBad.jump | exact NoBad.rets)) ?_) | fail)
        go_returns
        exact ⟨by simp [texts, hse], Upd.refl _ _⟩
end Go.Proofs.Ytijmbpokglohbaa

namespace Go.Proofs.Ytijmbpokglohbaa
open Go.RowKit
set_option linter.unusedSimpArgs false
set_option linter.unusedVariables false
/-- where the 0 stands that ends the name at the beginning -/
def fzF : Nat → Bs → Option Nat
  | _, [] => none
  | 0, _ :: _ => none
  | f + 1, k :: t => if k = 0 then some 0 else (fzF f (t.drop k.toNat)).map (· + (1 + k.toNat))
theorem fzF_more : ∀ (f : Nat) (s : Bs), s.length ≤ f → fzF f s = fzF s.length s
  | 0, s, h => by
    have : s = [] := List.eq_nil_of_length_eq_zero (by omega)
    subst this; rfl
  | f + 1, [], _ => rfl
  | f + 1, k :: t, h => by
    simp only [List.length_cons] at h
    simp only [fzF, List.length_cons]
    split
    · rfl
    · rw [fzF_more f (t.drop k.toNat) (by simp; omega), ← fzF_more t.length (t.drop k.toNat) (by simp)]
def fz (s : Bs) : Option Nat := fzF s.length s
theorem fz_nil : fz [] = none := rfl
theorem fz_cons (k : UInt8) (t : Bs) : fz (k :: t) = if k = 0 then some 0 else (fz (t.drop k.toNat)).map (· + (1 + k.toNat)) := by
  unfold fz
  simp only [List.length_cons, fzF]
  rw [fzF_more t.length _ (by simp)]
def firB (s : Bs) : Bool := match fz s with | none => false | some i => hostOk (s.take (i + 1))
def firN (s : Bs) : Bs := match fz s with | none => [] | some i => hostN (s.take (i + 1))
def firR (s : Bs) : Bs := match fz s with | none => [] | some i => s.drop (i + 1)
def firI (s : Bs) : Nat := match fz s with | none => 0 | some i => if hostOk (s.take (i + 1)) then i + 1 else 0
theorem u8_ne {k : UInt8} (h : k ≠ 0) : 1 ≤ k.toNat := by
  rcases Nat.eq_zero_or_pos k.toNat with h0 | h0
  · exact absurd (UInt8.toNat_inj.1 (by simpa using h0)) h
  · exact h0
set_option maxRecDepth 100000 in
theorem first_w (s : Bs) (hm : s.length ≤ 70000) (w : World) : Calls Try.prog 111 #[.string ⟨s.toArray⟩] w (Rets fun r w' => r = .tuple #[.string ⟨(firN s).toArray⟩, .string ⟨(firR s).toArray⟩, .bool (firB s)] ∧ Upd0 w w') := by
  go_enter Try.func111, Try.ntmps111
  go_wp2_with (first | (with_reducible refine wp_serial (by kernel_rfl) (by kernel_rfl) (by repeat with_reducible (first | apply NoBad.then | apply NoBad.inBlock | apply NoBad.jump | exact NoBad.rets)) ?_) | fail)
  go_loop [5] (fun x => ∃ i : Nat, x = .int .i64 i ∧ i ≤ s.length + 300 ∧ Hid (fz s = (fz (s.drop i)).map (· + i))) (fun x => s.length - (intOf x).toNat)
  case atStart => exact ⟨0, rfl, by omega, Lib.hid (by simp)⟩
  case round =>
    obtain ⟨i, rfl, hil, ht⟩ := hrel
    by_cases hlt : i < s.length
    · obtain ⟨k, t, hkt, hk, htl, hlen1, hlen2⟩ := drop_facts hlt
      have hkth := Lib.hid hkt
      have htlh := Lib.hid htl
      have hkb := k.toNat_lt
      clear hkt htl
      by_cases h0 : k = 0
      · subst h0
        have hf := Lib.hid (show fz s = some i by rw [ht.out, hkth.out, fz_cons]; simp)
        have htk : (s.take (i + 1)).length ≤ 70000 := by simp; omega
        go_wp2_with (first
          | (go_at_call 96; refine (hostof_w (s.take (i + 1)) htk _).use ?_; rintro v w2 ⟨rfl, hu2⟩)
          | (with_reducible refine wp_serial (by kernel_rfl) (by kernel_rfl) (by repeat with_reducible (first | apply NoBad.then | apply NoBad.inBlock | apply NoBad.jump | exact NoBad.rets)) ?_)
          | fail)
        go_returns
        exact ⟨by simp [firN, firR, firB, hf.out], (by repeat first | with_reducible (first | exact Upd.refl _ _ | assumption | apply Upd.drew | apply Upd.alloc) | refine Upd0.tr ?_ (by with_reducible assumption) | refine Upd.setCell ?_ (fun h => absurd h (by first | exact Nat.lt_irrefl _ | (simp only []; omega))) _)⟩
      · have h1 := u8_ne h0
        have hb : ((k.toNat : Int) == 0) = false := by rw [beq_eq_false_iff_ne]; omega
        have hb2 : ((k.toNat : Int) != 0) = true := by rw [bne_iff_ne]; omega
        have h0h := Lib.hid h0
        clear h0
        go_wp2_with (first | (with_reducible refine wp_serial (by kernel_rfl) (by kernel_rfl) (by repeat with_reducible (first | apply NoBad.then | apply NoBad.inBlock | apply NoBad.jump | exact NoBad.rets)) ?_) | fail)
        go_round
        case rel => exact ⟨i + (1 + k.toNat), by go_num, by omega, Lib.hid (by
          rw [ht.out, hkth.out, fz_cons, if_neg h0h.out, show i + (1 + k.toNat) = (i + 1) + k.toNat by omega, ← List.drop_drop, htlh.out]
          cases fz (t.drop k.toNat) <;> simp; omega)⟩
        case measure => simp [intOf]; omega
    · have hf := Lib.hid (show fz s = none by rw [ht.out, List.drop_of_length_le (by omega), fz_nil]; rfl)
      go_wp2_with (first | (with_reducible refine wp_serial (by kernel_rfl) (by kernel_rfl) (by repeat with_reducible (first | apply NoBad.then | apply NoBad.inBlock | apply NoBad.jump | exact NoBad.rets)) ?_) | fail)
      go_returns
      exact ⟨by simp [firN, firR, firB, hf.out], (by repeat first | with_reducible (first | exact Upd.refl _ _ | assumption | apply Upd.drew | apply Upd.alloc) | refine Upd0.tr ?_ (by with_reducible assumption) | refine Upd.setCell ?_ (fun h => absurd h (by first | exact Nat.lt_irrefl _ | (simp only []; omega))) _)⟩
set_option maxRecDepth 100000 in
theorem rfirst_w (s : Bs) (hm : s.length ≤ 70000) (w : World) : Calls Try.prog 114 #[.string ⟨s.toArray⟩] w (Rets fun r w' => r = .int .i64 (firI s) ∧ Upd0 w w') := by
  go_enter Try.func114, Try.ntmps114
  go_wp2_with (first | (with_reducible refine wp_serial (by kernel_rfl) (by kernel_rfl) (by repeat with_reducible (first | apply NoBad.then | apply NoBad.inBlock | apply NoBad.jump | exact NoBad.rets)) ?_) | fail)
  go_loop [3] (fun x => ∃ i : Nat, x = .int .i64 i ∧ i ≤ s.length + 300 ∧ Hid (fz s = (fz (s.drop i)).map (· + i))) (fun x => s.length - (intOf x).toNat)
  case atStart => exact ⟨0, rfl, by omega, Lib.hid (by simp)⟩
  case round =>
    obtain ⟨i, rfl, hil, ht⟩ := hrel
    by_cases hlt : i < s.length
    · obtain ⟨k, t, hkt, hk, htl, hlen1, hlen2⟩ := drop_facts hlt
      have hkth := Lib.hid hkt
      have htlh := Lib.hid htl
      have hkb := k.toNat_lt
      clear hkt htl
      by_cases h0 : k = 0
      · subst h0
        have hf := Lib.hid (show fz s = some i by rw [ht.out, hkth.out, fz_cons]; simp)
        have htk : (s.take (i + 1)).length ≤ 70000 := by simp; omega
        cases hok : hostOk (s.take (i + 1))
        all_goals
          have hokh := Lib.hid hok
          clear hok
          go_wp2_with (first
            | (go_at_call 78; refine (isHost_w (s.take (i + 1)) htk _).use ?_; rintro v w2 ⟨rfl, hu2⟩; rw [hokh.out])
            | (with_reducible refine wp_serial (by kernel_rfl) (by kernel_rfl) (by repeat with_reducible (first | apply NoBad.then | apply NoBad.inBlock | apply NoBad.jump | exact NoBad.rets)) ?_)
            | fail)
          go_returns
          exact ⟨by simp [firI, hf.out, hokh.out], (by repeat first | with_reducible (first | exact Upd.refl _ _ | assumption | apply Upd.drew | apply Upd.alloc) | refine Upd0.tr ?_ (by with_reducible assumption) | refine Upd.setCell ?_ (fun h => absurd h (by first | exact Nat.lt_irrefl _ | (simp only []; omega))) _)⟩
      · have h1 := u8_ne h0
        have hb : ((k.toNat : Int) == 0) = false := by rw [beq_eq_false_iff_ne]; omega
        have h0h := Lib.hid h0
        clear h0
        go_wp2_with (first | (with_reducible refine wp_serial (by kernel_rfl) (by kernel_rfl) (by repeat with_reducible (first | apply NoBad.then | apply NoBad.inBlock | apply NoBad.jump | exact NoBad.rets)) ?_) | fail)
        go_round
        case rel => exact ⟨i + 1 + k.toNat, by go_num, by omega, Lib.hid (by
          rw [ht.out, hkth.out, fz_cons, if_neg h0h.out, ← List.drop_drop, htlh.out]
          cases fz (t.drop k.toNat) <;> simp; omega)⟩
        case measure => simp [intOf]; omega
    · have hf := Lib.hid (show fz s = none by rw [ht.out, List.drop_of_length_le (by omega), fz_nil]; rfl)
      go_wp2_with (first | (with_reducible refine wp_serial (by kernel_rfl) (by kernel_rfl) (by repeat with_reducible (first | apply NoBad.then | apply NoBad.inBlock | apply NoBad.jump | exact NoBad.rets)) ?_) | fail)
      go_returns
      exact ⟨by simp [firI, hf.out], (by repeat first | with_reducible (first | exact Upd.refl _ _ | assumption | apply Upd.drew | apply Upd.alloc) | refine Upd0.tr ?_ (by with_reducible assumption) | refine Upd.setCell ?_ (fun h => absurd h (by first | exact Nat.lt_irrefl _ | (simp only []; omega))) _)⟩
theorem num_app (a b : Bs) : num (a ++ b) = b.foldl (fun n b => 256 * n + b.toNat) (num a) := by simp [num]
theorem num_snoc (a : Bs) (b : UInt8) : num (a ++ [b]) = 256 * num a + b.toNat := by simp [num]
theorem num_lt (a : Bs) : num a < 256 ^ a.length := by
  have : ∀ (n : Nat) (a : Bs), a.length = n → num a < 256 ^ n := by
    intro n
    induction n with
    | zero => intro a h; have : a = [] := List.eq_nil_of_length_eq_zero h; subst this; decide
    | succ n ih =>
      intro a h
      rcases snoc_or a with rfl | ⟨t, c, rfl⟩
      · simp at h
      · simp at h
        have h1 := ih t h
        have h2 := c.toNat_lt
        rw [num_snoc, Nat.pow_succ]; omega
  exact this a.length a rfl
set_option maxRecDepth 100000 in
theorem number_w (s : Bs) (hm : s.length ≤ 4) (w : World) : Calls Try.prog 115 #[.string ⟨s.toArray⟩] w (Rets fun r w' => r = .int .i64 (num s) ∧ Upd0 w w') := by
  go_enter Try.func115, Try.ntmps115
  go_wp2_with (first | (with_reducible refine wp_serial (by kernel_rfl) (by kernel_rfl) (by repeat with_reducible (first | apply NoBad.then | apply NoBad.inBlock | apply NoBad.jump | exact NoBad.rets)) ?_) | fail)
  go_loop [3, 4] (fun x y => ∃ i n : Nat, y = .int .i64 i ∧ x = .int .i64 n ∧ i ≤ s.length ∧ n < 4294967296 ∧ Hid (n = num (s.take i))) (fun _ y => s.length - (intOf y).toNat)
  case atStart => exact ⟨0, 0, rfl, rfl, by omega, by omega, Lib.hid (by simp [num])⟩
  case round =>
    obtain ⟨i, n, rfl, rfl, hil, hnl, hn⟩ := hrel
    by_cases hlt : i < s.length
    · obtain ⟨k, t, hkt, hk, htl, hlen1, hlen2⟩ := drop_facts hlt
      have hkb := k.toNat_lt
      have hn1 := Lib.hid (show num (s.take (i + 1)) = 256 * n + k.toNat by
        rw [List.take_succ_eq_append_getElem hlt, num_snoc, hk, hn.out])
      have hn2 : 256 * n + k.toNat < 4294967296 := by
        rw [← hn1.out]
        have h1 := num_lt (s.take (i + 1))
        have h2 : (s.take (i + 1)).length ≤ 4 := by simp; omega
        have h3 : 256 ^ (s.take (i + 1)).length ≤ 256 ^ 4 := Nat.pow_le_pow_right (by decide) h2
        exact Nat.lt_of_lt_of_le h1 (Nat.le_trans h3 (by decide))
      clear hkt htl
      go_wp2_with (first | (with_reducible refine wp_serial (by kernel_rfl) (by kernel_rfl) (by repeat with_reducible (first | apply NoBad.then | apply NoBad.inBlock | apply NoBad.jump | exact NoBad.rets)) ?_) | fail)
      go_round
      case rel => exact ⟨i + 1, 256 * n + k.toNat, by go_num, by go_num, by omega, hn2, Lib.hid (by rw [hn1.out])⟩
      case measure => simp [intOf]; omega
    · go_wp2_with (first | (with_reducible refine wp_serial (by kernel_rfl) (by kernel_rfl) (by repeat with_reducible (first | apply NoBad.then | apply NoBad.inBlock | apply NoBad.jump | exact NoBad.rets)) ?_) | fail)
      go_returns
      exact ⟨by rw [hn.out, List.take_of_length_le (by omega)]; rfl, Upd.refl _ _⟩
/-- a number in so many bytes -/
def wid : Nat → Nat → Bs
  | 0, _ => []
  | k + 1, n => wid k (n / 256) ++ [UInt8.ofNat n]
theorem wid_len : ∀ (k n : Nat), (wid k n).length = k
  | 0, _ => rfl
  | k + 1, n => by simp [wid, wid_len k]
theorem wid4 (n : Nat) : wid 4 n = w4 n := by simp [wid, w4, Nat.div_div_eq_div_mul]
theorem br_of_owns {e : TypeId} {B n : Nat} {w : World} {v : Value} {l : Bs} (h : w.ownsRow B e 1 v n (byt l)) (hn : n = l.length) : BR e B w v l := by
  subst hn
  rcases h.2 with ⟨rfl, h0⟩ | ⟨g, cap, cur, rfl, h1, h2, h3, h4, h5, h6⟩
  · exact .inl ⟨by rw [], List.eq_nil_of_length_eq_zero h0⟩
  · exact .inr ⟨g, cap, cur, (0, 0), rfl, h1, h2, .inl (Nat.le_refl _), h3, h4, by simpa using h5, by simpa using h6⟩
theorem made_byt (n : Nat) : (madeCells (Value.int .u8 0).cells (n * 1)).toList = byt (List.replicate n 0) := by
  rw [Nat.mul_one]
  apply List.ext_getElem
  · simp [madeCells, byt]
  · intro i h1 h2
    have hc : (Value.int .u8 0).cells = #[.int .u8 0] := rfl
    simp [madeCells, byt, hc, Nat.mod_one]
set_option maxRecDepth 100000 in
theorem wide_w (k : Nat) (hk : k ≤ 8) (n : Nat) (hn : n < 9223372036854775808) (w : World) : Calls Try.prog 126 #[.int .i64 n, .int .i64 k] w (Rets fun r w' => r = .string ⟨(wid k n).toArray⟩ ∧ Upd0 w w') := by
  obtain ⟨i0, hi, hz0, hz1, hz2⟩ := info_parts info_u8
  go_enter Try.func126, Try.ntmps126
  go_wp2_with (first
    | (refine wpList_make_full w rfl (.tmp 7) (.tmp 7) 95 rfl w.heap.size 5 i0 (.int .u8 0) 1 Try.underlying95 hi hz0 hz1 .i64 .i64 (k : Int) (k : Int) k rfl rfl rfl rfl (by rw [hz2]; omega) (by unfold maxLen; omega) (Nat.le_refl _) ?_; intro w1 h1 hg1; have hu1 : Upd0 w w1 := ⟨hg1.os, hg1.tape, hg1.output, hg1.size, fun b hb _ => hg1.block b hb (by simp)⟩; rw [made_byt] at h1; have hb1 := Lib.hid (br_of_owns h1 (by simp)); clear h1 hg1)
    | (with_reducible refine wp_serial (by kernel_rfl) (by kernel_rfl) (by repeat with_reducible (first | apply NoBad.then | apply NoBad.inBlock | apply NoBad.jump | exact NoBad.rets)) ?_) | fail)
  go_loopw [0, 6] (fun x y wr => ∃ (m x' : Nat) (tail : Bs), x = .int .i64 x' ∧ y = .int .i64 ((m : Int) - 1) ∧ m ≤ k ∧ x' < 9223372036854775808 ∧ Hid (m + tail.length = k) ∧ Hid (wid k n = wid m x' ++ tail) ∧ Upd0 w wr ∧ Hid (BR 5 w.heap.size wr (.slice (some ⟨w.heap.size, 0, none⟩) k k) (List.replicate m 0 ++ tail))) (fun _ y _ => (intOf y + 1).toNat)
  case atStart => exact ⟨k, n, [], rfl, rfl, Nat.le_refl _, hn, Lib.hid (by simp), Lib.hid (by simp), hu1, Lib.hid (by simpa using hb1.out)⟩
  case round =>
    obtain ⟨m, x, tail, rfl, rfl, hmk, hx, hl, hw, hu, hb⟩ := hrel
    cases m with
    | zero =>
      go_wp2_with (first
        | (refine wpList_ofB rfl (.tmp 23) 95 9 rfl 5 Try.underlying95 Try.underlying5 Try.underlying9 rfl hb.out ?_)
        | (with_reducible refine wp_serial (by kernel_rfl) (by kernel_rfl) (by repeat with_reducible (first | apply NoBad.then | apply NoBad.inBlock | apply NoBad.jump | exact NoBad.rets)) ?_) | fail)
      go_returns
      exact ⟨by rw [hw.out]; rfl, hu⟩
    | succ m =>
      have hc := hb.out.cell (i := m) (by simp; omega)
      have hf := hb.out.frz (i := m) (by simp; omega)
      have hcs : Value.int .u8 ((x : Int) % 256) = .int .u8 (UInt8.ofNat x).toNat := by simp [UInt8.toNat_ofNat']
      have hcsh := Lib.hid hcs
      clear hcs
      go_wp2_with (first | (with_reducible refine wp_serial (by kernel_rfl) (by kernel_rfl) (by repeat with_reducible (first | apply NoBad.then | apply NoBad.inBlock | apply NoBad.jump | exact NoBad.rets)) ?_) | fail)
      rw [hcsh.out]
      go_roundw
      case rel => exact ⟨m, x / 256, UInt8.ofNat x :: tail, by go_num, rfl, by omega, by omega, Lib.hid (by have := hl.out; simp; omega), Lib.hid (by rw [hw.out, wid]; simp),
        (hu.setCell (fun h => absurd h (by simp)) _), Lib.hid (by
          have h2 := hb.out.setAt (i := m) (UInt8.ofNat x)
          have h3 : (List.replicate (m + 1) 0 ++ tail).set m (UInt8.ofNat x) = List.replicate m 0 ++ UInt8.ofNat x :: tail := by
            rw [List.replicate_succ', List.append_assoc, List.set_append_right _ _ (by simp)]
            simp
          rw [h3] at h2; exact h2)⟩
      case measure => simp [intOf]
end Go.Proofs.Ytijmbpokglohbaa

namespace Go.Proofs.Ytijmbpokglohbaa
open Go.RowKit
set_option linter.unusedSimpArgs false
set_option linter.unusedVariables false
theorem bits_or_i64 (a b : Nat) (ha : a < 4611686018427387904) (hb : b < 4611686018427387904) : bits .or .i64 (a : Int) (b : Int) = ((a ||| b : Nat) : Int) := by
  have hx : a ||| b < 2 ^ 62 := Nat.or_lt_two_pow (by omega) (by omega)
  have h1 : (BitVec.ofInt 64 (a : Int)).toNat = a := by
    rw [BitVec.ofInt_natCast, BitVec.toNat_ofNat]; exact Nat.mod_eq_of_lt (by omega)
  have h2 : (BitVec.ofInt 64 (b : Int)).toNat = b := by
    rw [BitVec.ofInt_natCast, BitVec.toNat_ofNat]; exact Nat.mod_eq_of_lt (by omega)
  show IntKind.i64.wrap ((BitVec.ofInt 64 (a : Int) ||| BitVec.ofInt 64 (b : Int)).toNat : Int) = _
  rw [BitVec.toNat_or, h1, h2]
  exact IntWalk.i64_in _ (by omega)
theorem bits_and_i64 (a b : Nat) (ha : a < 4611686018427387904) (hb : b < 4611686018427387904) : bits .and .i64 (a : Int) (b : Int) = ((a &&& b : Nat) : Int) := by
  have hx : a &&& b < 2 ^ 62 := Nat.and_lt_two_pow _ (by omega)
  have h1 : (BitVec.ofInt 64 (a : Int)).toNat = a := by
    rw [BitVec.ofInt_natCast, BitVec.toNat_ofNat]; exact Nat.mod_eq_of_lt (by omega)
  have h2 : (BitVec.ofInt 64 (b : Int)).toNat = b := by
    rw [BitVec.ofInt_natCast, BitVec.toNat_ofNat]; exact Nat.mod_eq_of_lt (by omega)
  show IntKind.i64.wrap ((BitVec.ofInt 64 (a : Int) &&& BitVec.ofInt 64 (b : Int)).toNat : Int) = _
  rw [BitVec.toNat_and, h1, h2]
  exact IntWalk.i64_in _ (by omega)
theorem or8 (n : Nat) (c : UInt8) (hn : n < 1099511627776) : bits .or .i64 ((n : Int) * 256) (c.toNat : Int) = ((256 * n + c.toNat : Nat) : Int) := by
  have hc := c.toNat_lt
  have h1 : ((n : Int) * 256) = ((256 * n : Nat) : Int) := by omega
  rw [h1, bits_or_i64 _ _ (by omega) (by omega), show 256 = 2 ^ 8 from rfl, ← Nat.two_pow_add_eq_or_of_lt (by omega)]
def at4 (r : Bs) (i : Nat) : Nat := num ((r.drop (4 * i)).take 4)
set_option maxRecDepth 100000 in
theorem at_w (r : Bs) (hr : r.length = 20) (i : Nat) (hi : i < 5) (b : Nat) (w : World) (hc : w.cell? ⟨b, 0, none⟩ = some (.string ⟨r.toArray⟩)) : Calls Try.prog 112 #[.int .i64 i, .pointer (some ⟨b, 0, none⟩)] w (Rets fun v w' => v = .int .i64 (at4 r i) ∧ w = w') := by
  have hr1 : r.length ≤ 20 := by omega
  have hr2 : 20 ≤ r.length := by omega
  clear hr
  go_enter Try.func112, Try.ntmps112
  go_wp2_with (first | (with_reducible refine wp_serial (by kernel_rfl) (by kernel_rfl) (by repeat with_reducible (first | apply NoBad.then | apply NoBad.inBlock | apply NoBad.jump | exact NoBad.rets)) ?_) | fail)
  go_loop [4, 6] (fun x y => ∃ k n : Nat, y = .int .i64 k ∧ x = .int .i64 n ∧ k ≤ 4 ∧ n < 4294967296 ∧ Hid (n = num ((r.drop (4 * i)).take k))) (fun _ y => 4 - (intOf y).toNat)
  case atStart => exact ⟨0, 0, rfl, rfl, by omega, by omega, Lib.hid (by simp [num])⟩
  case round =>
    obtain ⟨k, n, rfl, rfl, hk4, hnl, hn⟩ := hrel
    by_cases hlt : k < 4
    · have hil : 4 * i + k < r.length := by omega
      obtain ⟨c, hcc⟩ : ∃ c, r[4 * i + k] = c := ⟨_, rfl⟩
      have hcb := c.toNat_lt
      have hx : (r.drop (4 * i)).take (k + 1) = (r.drop (4 * i)).take k ++ [c] := by
        rw [List.take_succ_eq_append_getElem (by simp; omega), List.getElem_drop, hcc]
      have hn1 := Lib.hid (show num ((r.drop (4 * i)).take (k + 1)) = 256 * n + c.toNat by rw [hx, num_snoc, ← hn.out])
      have hn2 : 256 * n + c.toNat < 4294967296 := by
        rw [← hn1.out]
        have h1 := num_lt ((r.drop (4 * i)).take (k + 1))
        have h2 : ((r.drop (4 * i)).take (k + 1)).length ≤ 4 := by simp; omega
        have h3 : 256 ^ ((r.drop (4 * i)).take (k + 1)).length ≤ 256 ^ 4 := Nat.pow_le_pow_right (by decide) h2
        exact Nat.lt_of_lt_of_le h1 (Nat.le_trans h3 (by decide))
      have hor := or8 n c (by omega)
      clear hx
      go_wp2_with (first | (with_reducible refine wp_serial (by kernel_rfl) (by kernel_rfl) (by repeat with_reducible (first | apply NoBad.then | apply NoBad.inBlock | apply NoBad.jump | exact NoBad.rets)) ?_) | fail)
      go_round
      case rel => exact ⟨k + 1, 256 * n + c.toNat, by go_num, by go_num, by omega, hn2, Lib.hid (by rw [hn1.out])⟩
      case measure => simp [intOf]; omega
    · have : k = 4 := by omega
      subst this
      go_wp2_with (first | (with_reducible refine wp_serial (by kernel_rfl) (by kernel_rfl) (by repeat with_reducible (first | apply NoBad.then | apply NoBad.inBlock | apply NoBad.jump | exact NoBad.rets)) ?_) | fail)
      go_returns
      exact ⟨by rw [hn.out]; rfl, rfl⟩
theorem at_lit (n : Int) (r : Bs) (hr : r.length = 20) (i : Nat) (hn : n = (i : Int)) (hi : i < 5) (b : Nat) (w : World) (hc : w.cell? ⟨b, 0, none⟩ = some (.string ⟨r.toArray⟩)) : Calls Try.prog 112 #[.int .i64 n, .pointer (some ⟨b, 0, none⟩)] w (Rets fun v w' => v = .int .i64 (at4 r i) ∧ w = w') := by
  subst hn; exact at_w r hr i hi b w hc
end Go.Proofs.Ytijmbpokglohbaa

namespace Go.Proofs.Ytijmbpokglohbaa
open Go.RowKit
set_option linter.unusedSimpArgs false
set_option linter.unusedVariables false
structure So where
  main : Bs
  mail : Bs
  se : Int
  re : Int
  rt : Int
  ex : Int
  mi : Int
def So.val (s : So) : Value := .agg #[.string ⟨s.main.toArray⟩, .string ⟨s.mail.toArray⟩, .int .i64 s.se, .int .i64 s.re, .int .i64 s.rt, .int .i64 s.ex, .int .i64 s.mi]
def So.nums (s : So) : List Int := [s.re, s.rt, s.ex, s.mi]
def numOk (x : Int) : Bool := decide (0 ≤ x) && decide (x ≤ 2147483647)
def So.ok (s : So) : Bool := cutB s.main && cutB s.mail && decide (0 ≤ s.se) && decide (s.se ≤ 4294967295) && s.nums.all numOk
def So.tl (s : So) (k : Nat) : Bs := (s.nums.take k).flatMap fun x => w4 x.toNat
def So.hd (s : So) : Bs := s.main ++ 0 :: (s.mail ++ [0]) ++ w4 s.se.toNat
def So.bytes (s : So) : Bs := if s.ok then s.hd ++ s.tl 4 else []
def So.code (s : So) : Int := if s.ok then 0 else 1
theorem cutB_len {s : Bs} (h : cutB s = true) : s.length ≤ 254 := by
  unfold cutB cutO at h
  split at h
  · cases h
  · omega
theorem br_upd0 {e : TypeId} {w wr w2 : World} {v : Value} {l : Bs} (h : Upd0 w wr) (hb : BR e w.heap.size wr v l) (k : Upd (fun k => v.ownBlock = some k) wr w2) : Upd0 w w2 :=
  Upd.trans h k (fun n hn e => by have := (hb.lt e).1; omega)
theorem so_tl (s : So) {k : Nat} {x : Int} (h : s.nums[k]? = some x) : s.tl (k + 1) = s.tl k ++ w4 x.toNat := by
  rw [So.tl, So.tl, List.take_add_one, h]; simp
theorem so_len (s : So) (k : Nat) : (s.tl k).length ≤ 16 := by
  have : ∀ l : List Int, (l.flatMap fun x => w4 x.toNat).length = 4 * l.length := by
    intro l; induction l with
    | nil => rfl
    | cons x l ih => rw [List.flatMap_cons, List.length_append, ih, List.length_cons]; simp only [w4, List.length_cons, List.length_nil]; omega
  rw [So.tl, this]
  have := List.length_take_le k s.nums
  have h2 : (s.nums.take k).length ≤ s.nums.length := by rw [List.length_take]; omega
  have h3 : s.nums.length = 4 := rfl
  omega
theorem so_all (s : So) {k : Nat} {x : Int} (h : s.nums[k]? = some x) (hx : numOk x = false) : s.nums.all numOk = false := by
  rw [List.all_eq_false]
  exact ⟨x, List.mem_of_getElem? h, by simp [hx]⟩
theorem arr4_0 (a b c d : Value) (w : World) : (Instr.index 164 (.agg #[a, b, c, d]) (.int .i64 0)).run Try.prog w = .ok a w := by kernel_rfl
theorem arr4_1 (a b c d : Value) (w : World) : (Instr.index 164 (.agg #[a, b, c, d]) (.int .i64 1)).run Try.prog w = .ok b w := by kernel_rfl
theorem arr4_2 (a b c d : Value) (w : World) : (Instr.index 164 (.agg #[a, b, c, d]) (.int .i64 2)).run Try.prog w = .ok c w := by kernel_rfl
theorem arr4_3 (a b c d : Value) (w : World) : (Instr.index 164 (.agg #[a, b, c, d]) (.int .i64 3)).run Try.prog w = .ok d w := by kernel_rfl
attribute [local go_sem] arr4_0 arr4_1 arr4_2 arr4_3
theorem hostS_yes {s : Bs} (h : cutB s = true) : hostS s = s ++ [0] ∧ checkC s = 0 := by rw [hostS, checkC, h]; exact ⟨rfl, rfl⟩
theorem checkC_no {s : Bs} (h : cutB s = false) : checkC s = 1 := by rw [checkC, h]; rfl
set_option maxRecDepth 100000 in
set_option maxHeartbeats 4000000 in
theorem soa_w (s : So) (h1 : s.main.length ≤ 70000) (h2 : s.mail.length ≤ 70000) (w : World) : Calls Try.prog 113 #[s.val] w (Rets fun r w' => r = .tuple #[.string ⟨s.bytes.toArray⟩, .int .i64 s.code] ∧ Upd0 w w') := by
  obtain ⟨i0, hi, hz0, hz1, hz2⟩ := info_parts info_u8
  have hbad : Hid (s.ok = false → s.bytes = [] ∧ s.code = 1) := Lib.hid (fun h => by rw [So.bytes, So.code, h]; exact ⟨rfl, rfl⟩)
  have tok1 : True := trivial
  cases hc1 : cutB s.main with
  | false =>
    have hC1 := Lib.hid (checkC_no hc1)
    have hfin := Lib.hid (hbad.out (by rw [So.ok, hc1]; rfl))
    clear hc1 hbad
    rw [So.val]
    go_enter Try.func113, Try.ntmps113
    go_wp2_with (first
      | (go_at_call 123; have _t := tok1; refine (host_w s.main h1 _).use ?_; rintro v w1 ⟨rfl, hu1⟩; rw [hC1.out]; obtain ⟨k1, k2, k3⟩ := hu1.rules; simp only [World.size_alloc] at k1 k2 k3; have kz : w.heap.size < w1.heap.size := (by omega); clear tok1 _t)
      | (go_at_call 123; refine (host_w s.mail h2 _).use ?_; rintro v w2 ⟨rfl, hu2⟩; obtain ⟨j1, j2, j3⟩ := hu2.rules; have jz : w.heap.size < w2.heap.size := (by omega))
      | (with_reducible refine wp_serial (by kernel_rfl) (by kernel_rfl) (by repeat with_reducible (first | apply NoBad.then | apply NoBad.inBlock | apply NoBad.jump | exact NoBad.rets)) ?_)
      | fail)
    go_returns
    exact ⟨by rw [hfin.out.1, hfin.out.2]; rfl, (by repeat first | with_reducible (first | exact Upd.refl _ _ | assumption | apply Upd.drew | apply Upd.alloc) | refine Upd0.tr ?_ (by with_reducible assumption) | refine Upd.setCell ?_ (fun h => absurd h (by first | exact Nat.lt_irrefl _ | (simp only []; omega))) _)⟩
  | true =>
    obtain ⟨hS1, hC1⟩ := hostS_yes hc1
    have hl1 := cutB_len hc1
    have hS1h := Lib.hid hS1
    have hC1h := Lib.hid hC1
    have hc1h := Lib.hid hc1
    clear hS1 hC1 hc1
    cases hc2 : cutB s.mail with
    | false =>
      have hC2 := Lib.hid (checkC_no hc2)
      have hfin := Lib.hid (hbad.out (by rw [So.ok, hc2, hc1h.out]; rfl))
      clear hc2 hbad
      rw [So.val]
      go_enter Try.func113, Try.ntmps113
      go_wp2_with (first
        | (go_at_call 123; have _t := tok1; refine (host_w s.main h1 _).use ?_; rintro v w1 ⟨rfl, hu1⟩; rw [hC1h.out, hS1h.out]; obtain ⟨k1, k2, k3⟩ := hu1.rules; simp only [World.size_alloc] at k1 k2 k3; have kz : w.heap.size < w1.heap.size := (by omega); clear tok1 _t)
        | (go_at_call 123; refine (host_w s.mail h2 _).use ?_; rintro v w2 ⟨rfl, hu2⟩; rw [hC2.out]; obtain ⟨j1, j2, j3⟩ := hu2.rules; have jz : w.heap.size < w2.heap.size := (by omega))
        | (with_reducible refine wp_serial (by kernel_rfl) (by kernel_rfl) (by repeat with_reducible (first | apply NoBad.then | apply NoBad.inBlock | apply NoBad.jump | exact NoBad.rets)) ?_)
        | fail)
      go_returns
      exact ⟨by rw [hfin.out.1, hfin.out.2]; rfl, (by repeat first | with_reducible (first | exact Upd.refl _ _ | assumption | apply Upd.drew | apply Upd.alloc) | refine Upd0.tr ?_ (by with_reducible assumption) | refine Upd.setCell ?_ (fun h => absurd h (by first | exact Nat.lt_irrefl _ | (simp only []; omega))) _)⟩
    | true =>
      obtain ⟨hS2, hC2⟩ := hostS_yes hc2
      have hl2 := cutB_len hc2
      have hS2h := Lib.hid hS2
      have hC2h := Lib.hid hC2
      have hc2h := Lib.hid hc2
      clear hS2 hC2 hc2
      have hse : s.se < 0 ∨ (0 ≤ s.se ∧ 4294967295 < s.se) ∨ (0 ≤ s.se ∧ s.se ≤ 4294967295) := by omega
      rcases hse with hse | ⟨hse, hse2⟩ | ⟨hse, hse2⟩
      iterate 2
        · have hfin := Lib.hid (hbad.out (by
            rw [So.ok, hc2h.out, hc1h.out]
            first | (rw [show decide (0 ≤ s.se) = false by simp; omega]; simp; done) | (rw [show decide (s.se ≤ 4294967295) = false by simp; omega]; simp; done)))
          clear hbad
          rw [So.val]
          go_enter Try.func113, Try.ntmps113
          go_wp2_with (first
            | (go_at_call 123; have _t := tok1; refine (host_w s.main h1 _).use ?_; rintro v w1 ⟨rfl, hu1⟩; rw [hC1h.out, hS1h.out]; obtain ⟨k1, k2, k3⟩ := hu1.rules; simp only [World.size_alloc] at k1 k2 k3; have kz : w.heap.size < w1.heap.size := (by omega); clear tok1 _t)
            | (go_at_call 123; refine (host_w s.mail h2 _).use ?_; rintro v w2 ⟨rfl, hu2⟩; rw [hC2h.out, hS2h.out]; obtain ⟨j1, j2, j3⟩ := hu2.rules; have jz : w.heap.size < w2.heap.size := (by omega))
            | (with_reducible refine wp_serial (by kernel_rfl) (by kernel_rfl) (by repeat with_reducible (first | apply NoBad.then | apply NoBad.inBlock | apply NoBad.jump | exact NoBad.rets)) ?_)
            | fail)
          go_returns
          exact ⟨by rw [hfin.out.1, hfin.out.2]; rfl, (by repeat first | with_reducible (first | exact Upd.refl _ _ | assumption | apply Upd.drew | apply Upd.alloc) | refine Upd0.tr ?_ (by with_reducible assumption) | refine Upd.setCell ?_ (fun h => absurd h (by first | exact Nat.lt_irrefl _ | (simp only []; omega))) _)⟩
      obtain ⟨n0, hn0⟩ := Int.eq_ofNat_of_zero_le hse
      have hok := Lib.hid (show s.ok = s.nums.all numOk by
        rw [So.ok, hc2h.out, hc1h.out, show decide (0 ≤ s.se) = true by simpa using hse, show decide (s.se ≤ 4294967295) = true by simpa using hse2]; rfl)
      have hhd := Lib.hid (show s.main ++ 0 :: (s.mail ++ [0]) ++ w4 n0 = s.hd by rw [So.hd, hn0]; rfl)
      have htl0 := Lib.hid (show s.tl 0 = [] from rfl)
      have hnums : s.nums = [s.re, s.rt, s.ex, s.mi] := rfl
      have hnumsh := Lib.hid hnums
      have hgood : Hid (s.nums.all numOk = true → s.bytes = s.hd ++ s.tl 4 ∧ s.code = 0) := Lib.hid (fun h => by rw [So.bytes, So.code, hok.out, h]; exact ⟨rfl, rfl⟩)
      clear hnums
      have hlen0 : s.main.length + s.mail.length ≤ 508 := by omega
      have hv : s.val = .agg #[.string ⟨s.main.toArray⟩, .string ⟨s.mail.toArray⟩, .int .i64 n0, .int .i64 s.re, .int .i64 s.rt, .int .i64 s.ex, .int .i64 s.mi] := by rw [So.val, hn0]
      rw [hv]
      clear hv
      have hn0' : n0 ≤ 4294967295 := by omega
      have hlnh := so_len s
      clear hse hse2 hn0
      go_enter Try.func113, Try.ntmps113
      go_wp2_with (first
        | (go_at_call 123; have _t := tok1; refine (host_w s.main h1 _).use ?_; rintro v w1 ⟨rfl, hu1⟩; rw [hC1h.out, hS1h.out]; obtain ⟨k1, k2, k3⟩ := hu1.rules; simp only [World.size_alloc] at k1 k2 k3; have kz : w.heap.size < w1.heap.size := (by omega); clear tok1 _t)
        | (go_at_call 123; refine (host_w s.mail h2 _).use ?_; rintro v w2 ⟨rfl, hu2⟩; rw [hC2h.out, hS2h.out]; obtain ⟨j1, j2, j3⟩ := hu2.rules; have jz : w.heap.size < w2.heap.size := (by omega))
        | (refine wpList_toB rfl (.tmp 41) 9 95 rfl 5 Try.underlying9 Try.underlying95 Try.underlying5 (s.main ++ 0 :: (s.mail ++ [0])) rfl (by unfold maxLen; simp; omega) ?_; intro cap w3 hb3 hu3 hz3; have hl0l : (s.main ++ 0 :: (s.mail ++ [0])).length ≤ 600 := (by simp; omega); generalize hl0 : (s.main ++ 0 :: (s.mail ++ [0])) = l0 at *; have hl0h := Lib.hid hl0; clear hl0; have hb3h := Lib.hid hb3; clear hb3; obtain ⟨g1, g2, g3⟩ := hu3.rules; have gz : w.heap.size < w3.heap.size := (by omega))
        | (go_at_call 124; (with_reducible refine (long_w w.heap.size _ _ n0 _ (hb3h.out.mono (by omega)) (by omega) (by omega) (by omega)).use ?_); rintro v w4 ⟨ao4, cap4, rfl, hb4, hu4, hf4⟩; rw [hhd.out] at hb4; have hl4 := Lib.hid hb4; clear hb4 hf4; have hu5 := br_upd0 (show Upd0 w w3 from (by repeat first | with_reducible (first | exact Upd.refl _ _ | assumption | apply Upd.drew | apply Upd.alloc) | refine Upd0.tr ?_ (by with_reducible assumption) | refine Upd.setCell ?_ (fun h => absurd h (by first | exact Nat.lt_irrefl _ | (simp only []; omega))) _)) (hb3h.out.mono (by omega)) hu4; have m1 : ∀ o, w4.cell? ⟨w.heap.size, o, none⟩ = w3.cell? ⟨w.heap.size, o, none⟩ := fun o => hu4.cellEq (p := ⟨w.heap.size, o, none⟩) (fun e => absurd e (by simp [Value.ownBlock]; omega)) gz)
        | (with_reducible refine wp_serial (by kernel_rfl) (by kernel_rfl) (by repeat with_reducible (first | apply NoBad.then | apply NoBad.inBlock | apply NoBad.jump | exact NoBad.rets)) ?_)
        | fail)
      clear m1 g1 g2 j1 j2 k1 k2
      go_loopw [8, 55] (fun o y wr => ∃ (k : Nat) (ao : Option Addr) (n cap : Nat), k ≤ 4 ∧ y = .int .i64 k ∧ o = .slice ao n cap ∧ n ≤ 700 + 4 * k ∧ Hid (BR 5 w.heap.size wr (.slice ao n cap) (s.hd ++ s.tl k)) ∧ Hid ((s.nums.take k).all numOk = true) ∧ Upd0 w wr) (fun _ y _ => 4 - (intOf y).toNat)
      case atStart => exact ⟨0, ao4, _, cap4, by omega, rfl, rfl, by omega, Lib.hid (by rw [htl0.out, List.append_nil]; exact hl4.out), Lib.hid rfl, hu5⟩
      case round =>
        obtain ⟨k, ao, n, cp, hk4, rfl, rfl, hnl, hb, hall, hu⟩ := hrel
        have hkc : k = 4 ∨ k = 0 ∨ k = 1 ∨ k = 2 ∨ k = 3 := by omega
        rcases hkc with rfl | hkc
        · have hfin := Lib.hid (hgood.out (by have := hall.out; rwa [hnumsh.out] at this ⊢))
          go_wp2_with (first
            | (refine wpList_ofB rfl (.tmp 68) 95 9 rfl 5 Try.underlying95 Try.underlying5 Try.underlying9 rfl hb.out ?_)
            | (with_reducible refine wp_serial (by kernel_rfl) (by kernel_rfl) (by repeat with_reducible (first | apply NoBad.then | apply NoBad.inBlock | apply NoBad.jump | exact NoBad.rets)) ?_) | fail)
          go_returns
          exact ⟨by rw [hfin.out.1, hfin.out.2]; rfl, hu⟩
        · have hlen : (s.hd ++ s.tl k).length ≤ 700 + 4 * k := by
            obtain ⟨ao', cap', he⟩ := hb.out.isSlice
            injection he with _ he; omega
          have hx : ∃ x, s.nums[k]? = some x := by
            rw [hnumsh.out]; rcases hkc with rfl | rfl | rfl | rfl <;> exact ⟨_, rfl⟩
          obtain ⟨x, hx⟩ := hx
          have hx0 := hx
          rw [hnumsh.out] at hx0
          have hstep := Lib.hid (so_tl s hx)
          have hallb : Hid (numOk x = false → s.bytes = [] ∧ s.code = 1) := Lib.hid (fun h => hbad.out (by rw [hok.out]; exact so_all s hx h))
          have hallg : Hid (numOk x = true → (s.nums.take (k + 1)).all numOk = true) := Lib.hid (fun h => by rw [List.take_add_one, hx, List.all_append, hall.out]; simp [h])
          have hxr : x < 0 ∨ (0 ≤ x ∧ 2147483647 < x) ∨ (0 ≤ x ∧ x ≤ 2147483647) := by omega
          clear hx hbad hgood
          rcases hxr with hx1 | ⟨hx1, hx2⟩ | ⟨hx1, hx2⟩
          iterate 2
            · have hfin := Lib.hid (hallb.out (by unfold numOk; first | (rw [show decide (0 ≤ x) = false by simp; omega]; rfl) | (rw [show decide (x ≤ 2147483647) = false by simp; omega]; simp; done)))
              clear hallb hallg hstep
              rcases hkc with rfl | rfl | rfl | rfl
              all_goals
                obtain rfl := Option.some.inj hx0
                go_wp2_with (first | (with_reducible refine wp_serial (by kernel_rfl) (by kernel_rfl) (by repeat with_reducible (first | apply NoBad.then | apply NoBad.inBlock | apply NoBad.jump | exact NoBad.rets)) ?_) | fail)
                go_returns
                exact ⟨by rw [hfin.out.1, hfin.out.2]; rfl, hu⟩
          obtain ⟨m, rfl⟩ := Int.eq_ofNat_of_zero_le hx1
          have hg := Lib.hid (hallg.out (by unfold numOk; simp; omega))
          clear hallg hallb
          rcases hkc with rfl | rfl | rfl | rfl
          all_goals
            have hx3 := Option.some.inj hx0
            rw [hx3]
            clear hx0 hx3
            go_wp2_with (first
              | (go_at_call 124; (with_reducible refine (long_w w.heap.size _ _ m _ (hb.out.up (by repeat first | with_reducible (first | exact Upd.refl _ _ | assumption | apply Upd.drew | apply Upd.alloc) | refine Upd0.tr ?_ (by with_reducible assumption) | refine Upd.setCell ?_ (fun h => absurd h (by first | exact Nat.lt_irrefl _ | (simp only []; omega))) _)) (by have := hu.size; omega) (by omega) (by omega)).use ?_); rintro v w5 ⟨ao5, cap5, rfl, hb5, hu5', hf5⟩; have hl5 := Lib.hid hb5; clear hb5 hf5; have hu6 := br_upd0 hu hb.out hu5')
              | (with_reducible refine wp_serial (by kernel_rfl) (by kernel_rfl) (by repeat with_reducible (first | apply NoBad.then | apply NoBad.inBlock | apply NoBad.jump | exact NoBad.rets)) ?_) | fail)
            go_roundw
            case rel => exact ⟨_ + 1, ao5, _, cap5, by first | exact hk4' | omega, by rfl, rfl, by have := hlen; rw [List.length_append] at this; omega, Lib.hid (by have h := hl5.out; rw [List.length_append] at h; rw [hstep.out, ← List.append_assoc]; exact h), hg, hu6⟩
            case measure => simp [intOf]
end Go.Proofs.Ytijmbpokglohbaa

namespace Go.Proofs.Ytijmbpokglohbaa
open Go.RowKit
set_option linter.unusedSimpArgs false
set_option linter.unusedVariables false
theorem wide4_w (n : Nat) (hn : n < 9223372036854775808) (w : World) : Calls Try.prog 126 #[.int .i64 n, .int .i64 4] w (Rets fun r w' => r = .string ⟨(w4 n).toArray⟩ ∧ Upd0 w w') := by
  have := wide_w 4 (by decide) n hn w
  rw [wid4] at this; exact this
set_option maxRecDepth 100000 in
set_option maxHeartbeats 4000000 in
theorem rsoa_w (s : So) (h1 : s.main.length ≤ 70000) (h2 : s.mail.length ≤ 70000) (w : World) : Calls Try.prog 116 #[s.val] w (Rets fun r w' => r = .tuple #[.string ⟨s.bytes.toArray⟩, .int .i64 s.code] ∧ Upd0 w w') := by
  obtain ⟨i0, hi, hz0, hz1, hz2⟩ := info_parts info_u8
  have hbad : Hid (s.ok = false → s.bytes = [] ∧ s.code = 1) := Lib.hid (fun h => by rw [So.bytes, So.code, h]; exact ⟨rfl, rfl⟩)
  have tok1 : True := trivial
  cases hc1 : cutB s.main with
  | false =>
    have hC1 := Lib.hid (checkC_no hc1)
    have hfin := Lib.hid (hbad.out (by rw [So.ok, hc1]; rfl))
    clear hc1 hbad
    rw [So.val]
    go_enter Try.func116, Try.ntmps116
    go_wp2_with (first
      | (go_at_call 125; have _t := tok1; refine (rhost_w s.main h1 _).use ?_; rintro v w1 ⟨rfl, hu1⟩; rw [hC1.out]; obtain ⟨k1, k2, k3⟩ := hu1.rules; simp only [World.size_alloc] at k1 k2 k3; have kz : w.heap.size < w1.heap.size := (by omega); clear tok1 _t)
      | (go_at_call 125; refine (rhost_w s.mail h2 _).use ?_; rintro v w2 ⟨rfl, hu2⟩; obtain ⟨j1, j2, j3⟩ := hu2.rules; have jz : w.heap.size < w2.heap.size := (by omega))
      | (with_reducible refine wp_serial (by kernel_rfl) (by kernel_rfl) (by repeat with_reducible (first | apply NoBad.then | apply NoBad.inBlock | apply NoBad.jump | exact NoBad.rets)) ?_)
      | fail)
    go_returns
    exact ⟨by rw [hfin.out.1, hfin.out.2]; rfl, (by repeat first | with_reducible (first | exact Upd.refl _ _ | assumption | apply Upd.drew | apply Upd.alloc) | refine Upd0.tr ?_ (by with_reducible assumption) | refine Upd.setCell ?_ (fun h => absurd h (by first | exact Nat.lt_irrefl _ | (simp only []; omega))) _)⟩
  | true =>
    obtain ⟨hS1, hC1⟩ := hostS_yes hc1
    have hl1 := cutB_len hc1
    have hS1h := Lib.hid hS1
    have hC1h := Lib.hid hC1
    have hc1h := Lib.hid hc1
    clear hS1 hC1 hc1
    cases hc2 : cutB s.mail with
    | false =>
      have hC2 := Lib.hid (checkC_no hc2)
      have hfin := Lib.hid (hbad.out (by rw [So.ok, hc2, hc1h.out]; rfl))
      clear hc2 hbad
      rw [So.val]
      go_enter Try.func116, Try.ntmps116
      go_wp2_with (first
        | (go_at_call 125; have _t := tok1; refine (rhost_w s.main h1 _).use ?_; rintro v w1 ⟨rfl, hu1⟩; rw [hC1h.out, hS1h.out]; obtain ⟨k1, k2, k3⟩ := hu1.rules; simp only [World.size_alloc] at k1 k2 k3; have kz : w.heap.size < w1.heap.size := (by omega); clear tok1 _t)
        | (go_at_call 125; refine (rhost_w s.mail h2 _).use ?_; rintro v w2 ⟨rfl, hu2⟩; rw [hC2.out]; obtain ⟨j1, j2, j3⟩ := hu2.rules; have jz : w.heap.size < w2.heap.size := (by omega))
        | (with_reducible refine wp_serial (by kernel_rfl) (by kernel_rfl) (by repeat with_reducible (first | apply NoBad.then | apply NoBad.inBlock | apply NoBad.jump | exact NoBad.rets)) ?_)
        | fail)
      go_returns
      exact ⟨by rw [hfin.out.1, hfin.out.2]; rfl, (by repeat first | with_reducible (first | exact Upd.refl _ _ | assumption | apply Upd.drew | apply Upd.alloc) | refine Upd0.tr ?_ (by with_reducible assumption) | refine Upd.setCell ?_ (fun h => absurd h (by first | exact Nat.lt_irrefl _ | (simp only []; omega))) _)⟩
    | true =>
      obtain ⟨hS2, hC2⟩ := hostS_yes hc2
      have hl2 := cutB_len hc2
      have hS2h := Lib.hid hS2
      have hC2h := Lib.hid hC2
      have hc2h := Lib.hid hc2
      clear hS2 hC2 hc2
      have hse : s.se < 0 ∨ (0 ≤ s.se ∧ 4294967295 < s.se) ∨ (0 ≤ s.se ∧ s.se ≤ 4294967295) := by omega
      rcases hse with hse | ⟨hse, hse2⟩ | ⟨hse, hse2⟩
      iterate 2
        · have hfin := Lib.hid (hbad.out (by
            rw [So.ok, hc2h.out, hc1h.out]
            first | (rw [show decide (0 ≤ s.se) = false by simp; omega]; simp; done) | (rw [show decide (s.se ≤ 4294967295) = false by simp; omega]; simp; done)))
          clear hbad
          rw [So.val]
          go_enter Try.func116, Try.ntmps116
          go_wp2_with (first
            | (go_at_call 125; have _t := tok1; refine (rhost_w s.main h1 _).use ?_; rintro v w1 ⟨rfl, hu1⟩; rw [hC1h.out, hS1h.out]; obtain ⟨k1, k2, k3⟩ := hu1.rules; simp only [World.size_alloc] at k1 k2 k3; have kz : w.heap.size < w1.heap.size := (by omega); clear tok1 _t)
            | (go_at_call 125; refine (rhost_w s.mail h2 _).use ?_; rintro v w2 ⟨rfl, hu2⟩; rw [hC2h.out, hS2h.out]; obtain ⟨j1, j2, j3⟩ := hu2.rules; have jz : w.heap.size < w2.heap.size := (by omega))
            | (with_reducible refine wp_serial (by kernel_rfl) (by kernel_rfl) (by repeat with_reducible (first | apply NoBad.then | apply NoBad.inBlock | apply NoBad.jump | exact NoBad.rets)) ?_)
            | fail)
          go_returns
          exact ⟨by rw [hfin.out.1, hfin.out.2]; rfl, (by repeat first | with_reducible (first | exact Upd.refl _ _ | assumption | apply Upd.drew | apply Upd.alloc) | refine Upd0.tr ?_ (by with_reducible assumption) | refine Upd.setCell ?_ (fun h => absurd h (by first | exact Nat.lt_irrefl _ | (simp only []; omega))) _)⟩
      obtain ⟨n0, hn0⟩ := Int.eq_ofNat_of_zero_le hse
      have hok := Lib.hid (show s.ok = s.nums.all numOk by
        rw [So.ok, hc2h.out, hc1h.out, show decide (0 ≤ s.se) = true by simpa using hse, show decide (s.se ≤ 4294967295) = true by simpa using hse2]; rfl)
      have hhd := Lib.hid (show s.main ++ 0 :: (s.mail ++ [0]) ++ w4 n0 = s.hd by rw [So.hd, hn0]; rfl)
      have htl0 := Lib.hid (show s.tl 0 = [] from rfl)
      have hnums : s.nums = [s.re, s.rt, s.ex, s.mi] := rfl
      have hnumsh := Lib.hid hnums
      have hgood : Hid (s.nums.all numOk = true → s.bytes = s.hd ++ s.tl 4 ∧ s.code = 0) := Lib.hid (fun h => by rw [So.bytes, So.code, hok.out, h]; exact ⟨rfl, rfl⟩)
      clear hnums
      have hlen0 : s.main.length + s.mail.length ≤ 508 := by omega
      have hv : s.val = .agg #[.string ⟨s.main.toArray⟩, .string ⟨s.mail.toArray⟩, .int .i64 n0, .int .i64 s.re, .int .i64 s.rt, .int .i64 s.ex, .int .i64 s.mi] := by rw [So.val, hn0]
      rw [hv]
      clear hv
      have hn0' : n0 ≤ 4294967295 := by omega
      have hlnh := Lib.hid (so_len s)
      have hw4 : (w4 n0).length ≤ 4 := by simp [w4]
      have hhl : s.hd.length ≤ 700 := by rw [← hhd.out]; simp; omega
      clear hse hse2 hn0
      go_enter Try.func116, Try.ntmps116
      go_wp2_with (first
        | (go_at_call 125; have _t := tok1; refine (rhost_w s.main h1 _).use ?_; rintro v w1 ⟨rfl, hu1⟩; rw [hC1h.out, hS1h.out]; obtain ⟨k1, k2, k3⟩ := hu1.rules; simp only [World.size_alloc] at k1 k2 k3; have kz : w.heap.size < w1.heap.size := (by omega); clear tok1 _t)
        | (go_at_call 125; refine (rhost_w s.mail h2 _).use ?_; rintro v w2 ⟨rfl, hu2⟩; rw [hC2h.out, hS2h.out]; obtain ⟨j1, j2, j3⟩ := hu2.rules; have jz : w.heap.size < w2.heap.size := (by omega))
        | (go_at_call 126; (with_reducible refine (wide4_w n0 (by omega) _).use ?_); rintro v W4 ⟨rfl, hu4⟩; have hg4 := hu4.block (fun h => h) (alloc_last _ _ w2.heap.size rfl); have hg4h := Lib.hid hg4; clear hg4; have hu5 : Upd0 w W4 := (by repeat first | with_reducible (first | exact Upd.refl _ _ | assumption | apply Upd.drew | apply Upd.alloc) | refine Upd0.tr ?_ (by with_reducible assumption) | refine Upd.setCell ?_ (fun h => absurd h (by first | exact Nat.lt_irrefl _ | (simp only []; omega))) _))
        | (with_reducible refine wp_serial (by kernel_rfl) (by kernel_rfl) (by repeat with_reducible (first | apply NoBad.then | apply NoBad.inBlock | apply NoBad.jump | exact NoBad.rets)) ?_)
        | fail)
      clear j1 j2 k1 k2
      go_loopw [9, 10] (fun o y wr => ∃ (k : Nat), k ≤ 4 ∧ y = .int .i64 k ∧ o = .string ⟨(s.hd ++ s.tl k).toArray⟩ ∧ Hid (wr.heap[w2.heap.size]? = some (.cells #[.int .i64 s.re, .int .i64 s.rt, .int .i64 s.ex, .int .i64 s.mi] 3 (0, 0))) ∧ Hid ((s.nums.take k).all numOk = true) ∧ Upd0 w wr) (fun _ y _ => 4 - (intOf y).toNat)
      case atStart => exact ⟨0, by omega, rfl, by rw [htl0.out, ← hhd.out]; simp, Lib.hid hg4h.out, Lib.hid rfl, hu5⟩
      case round =>
        obtain ⟨k, hk4, rfl, rfl, hg, hall, hu⟩ := hrel
        have hkc : k = 4 ∨ k = 0 ∨ k = 1 ∨ k = 2 ∨ k = 3 := by omega
        have c0 : wr.cell? ⟨w2.heap.size, 0, none⟩ = some (.int .i64 s.re) := by simpa using blk_cell hg.out 0
        have c1 : wr.cell? ⟨w2.heap.size, 1, none⟩ = some (.int .i64 s.rt) := by simpa using blk_cell hg.out 1
        have c2 : wr.cell? ⟨w2.heap.size, 2, none⟩ = some (.int .i64 s.ex) := by simpa using blk_cell hg.out 2
        have c3 : wr.cell? ⟨w2.heap.size, 3, none⟩ = some (.int .i64 s.mi) := by simpa using blk_cell hg.out 3
        rcases hkc with rfl | hkc
        · have hfin := Lib.hid (hgood.out (by have := hall.out; rwa [hnumsh.out] at this ⊢))
          go_wp2_with (first | (with_reducible refine wp_serial (by kernel_rfl) (by kernel_rfl) (by repeat with_reducible (first | apply NoBad.then | apply NoBad.inBlock | apply NoBad.jump | exact NoBad.rets)) ?_) | fail)
          go_returns
          exact ⟨by rw [hfin.out.1, hfin.out.2]; rfl, hu⟩
        · have htk := hlnh.out k
          have hx : ∃ x, s.nums[k]? = some x := by
            rw [hnumsh.out]; rcases hkc with rfl | rfl | rfl | rfl <;> exact ⟨_, rfl⟩
          obtain ⟨x, hx⟩ := hx
          have hx0 := hx
          rw [hnumsh.out] at hx0
          have hstep := Lib.hid (so_tl s hx)
          have hallb : Hid (numOk x = false → s.bytes = [] ∧ s.code = 1) := Lib.hid (fun h => hbad.out (by rw [hok.out]; exact so_all s hx h))
          have hallg : Hid (numOk x = true → (s.nums.take (k + 1)).all numOk = true) := Lib.hid (fun h => by rw [List.take_add_one, hx, List.all_append, hall.out]; simp [h])
          have hxr : x < 0 ∨ (0 ≤ x ∧ 2147483647 < x) ∨ (0 ≤ x ∧ x ≤ 2147483647) := by omega
          clear hx hbad hgood
          rcases hxr with hx1 | ⟨hx1, hx2⟩ | ⟨hx1, hx2⟩
          iterate 2
            · have hfin := Lib.hid (hallb.out (by unfold numOk; first | (rw [show decide (0 ≤ x) = false by simp; omega]; rfl) | (rw [show decide (x ≤ 2147483647) = false by simp; omega]; simp; done)))
              clear hallb hallg hstep
              rcases hkc with rfl | rfl | rfl | rfl
              all_goals
                obtain rfl := Option.some.inj hx0
                go_wp2_with (first | (with_reducible refine wp_serial (by kernel_rfl) (by kernel_rfl) (by repeat with_reducible (first | apply NoBad.then | apply NoBad.inBlock | apply NoBad.jump | exact NoBad.rets)) ?_) | fail)
                go_returns
                exact ⟨by rw [hfin.out.1, hfin.out.2]; rfl, hu⟩
          obtain ⟨m, rfl⟩ := Int.eq_ofNat_of_zero_le hx1
          have hg2 := Lib.hid (hallg.out (by unfold numOk; simp; omega))
          clear hallg hallb
          rcases hkc with rfl | rfl | rfl | rfl
          all_goals
            have hx3 := Option.some.inj hx0
            simp only [hx3] at c0 c1 c2 c3
            have hgh := hg
            rw [hx3] at hgh ⊢
            clear hx0 hx3 hg
            have hw4 : (w4 m).length ≤ 4 := by simp [w4]
            go_wp2_with (first
              | (go_at_call 126; (with_reducible refine (wide4_w m (by omega) _).use ?_); rintro v W6 ⟨rfl, hu6⟩)
              | (with_reducible refine wp_serial (by kernel_rfl) (by kernel_rfl) (by repeat with_reducible (first | apply NoBad.then | apply NoBad.inBlock | apply NoBad.jump | exact NoBad.rets)) ?_) | fail)
            go_roundw
            case rel => exact ⟨_ + 1, by omega, by rfl, by rw [hstep.out]; rfl, Lib.hid (hu6.block (fun h => h) hgh.out), hg2, (by repeat first | with_reducible (first | exact Upd.refl _ _ | assumption | apply Upd.drew | apply Upd.alloc) | refine Upd0.tr ?_ (by with_reducible assumption) | refine Upd.setCell ?_ (fun h => absurd h (by first | exact Nat.lt_irrefl _ | (simp only []; omega))) _)⟩
            case measure => simp [intOf]
end Go.Proofs.Ytijmbpokglohbaa
