/-
  The document's May of a set.
-/
import Derived.Test.YtijmbpokglohbaaSeA
namespace Go.Proofs.Ytijmbpokglohbaa
open Go.RowKit
set_option linter.unusedSimpArgs false
set_option linter.unusedVariables false
set_option maxRecDepth 100000 in
set_option maxHeartbeats 4000000 in
theorem rmay_ok (s : St) (ao : Option Addr) (cap : Nat) (hn : s.nm.length ≤ 70000) (hd : ∀ d ∈ s.dt, d.length ≤ 70000) (h1 : fold s.nm = s.nm) (h2 : 1 ≤ s.dt.length) (h3 : s.dt.length ≤ 20) (w : World) (hS : SR w ao s.dt) :
    Calls Try.prog 84 #[s.val ao cap] w (Rets fun r w' => r = .bool (datOk s.nm s.ty s.tl none s.dt) ∧ Upd0 w w') := by
  obtain ⟨nm, ty, tl, dt⟩ := s
  simp only [St.val] at hn hd h1 h2 h3 hS ⊢
  have hSh := Lib.hid hS
  have hdh := Lib.hid hd
  have hfh := Lib.hid h1
  have g2 : ¬ ((dt.length : Int) < 1) := by omega
  have g3 : ¬ ((20 : Int) < dt.length) := by omega
  clear hS hd h1
  obtain ⟨X, hX⟩ : ∃ X, X = datOk nm ty tl none dt := ⟨_, rfl⟩
  have hXh := Lib.hid hX
  rw [← hX]
  clear hX
  go_enter Try.func84, Try.ntmps84
  go_wp2_with (first
    | (go_at_call 28; (with_reducible refine (rfold_w nm hn _).use ?_); rintro v w1 ⟨rfl, hu1⟩; rw [hfh.out]; have b1 := Lib.hid (hu1.block (fun h => h) (by first | exact alloc_last _ _ w.heap.size rfl | exact (alloc_last _ _ w.heap.size rfl))); obtain ⟨a0, a1, a2, a3⟩ := set4 b1.out)
    | (with_reducible refine And.intro hu1.ext ?_)
    | (with_reducible refine wp_serial3_1 0 [] [0, 1, 3, 4] 2 [5, 6, 7, 8, 9, 10, 11, 12, 13, 14, 15, 16, 17] [_, _, _, _] _ [_, _, _, _, _, _, _, _, _, _, _, _, _] (by kernel_rfl) (by decide +kernel) rfl rfl rfl ⟨Nat.zero_le _, fun s hs => absurd hs List.not_mem_nil⟩ (by repeat with_reducible (first | apply NoBad.then | apply NoBad.inBlock | apply NoBad.jump | exact NoBad.rets)) ?_)
    | (with_reducible refine wp_serial (by kernel_rfl) (by kernel_rfl) (by repeat with_reducible (first | apply NoBad.then | apply NoBad.inBlock | apply NoBad.jump | exact NoBad.rets)) ?_)
    | fail)
  have b1h := b1
  have hw1 : SR w1 ao dt := hSh.out.up (by repeat first | with_reducible (first | exact Upd.refl _ _ | assumption | apply Upd.drew | apply Upd.alloc) | refine Upd0.tr ?_ (by with_reducible assumption) | refine Upd.setCell ?_ (fun h => absurd h (by first | exact Nat.lt_irrefl _ | (simp only []; omega))) _)
  have hw1h := Lib.hid hw1
  have hw01 : Upd0 w w1 := (by repeat first | with_reducible (first | exact Upd.refl _ _ | assumption | apply Upd.drew | apply Upd.alloc) | refine Upd0.tr ?_ (by with_reducible assumption) | refine Upd.setCell ?_ (fun h => absurd h (by first | exact Nat.lt_irrefl _ | (simp only []; omega))) _)
  have hz1 : w.heap.size < w1.heap.size := blk_lt b1.out
  clear hw1 b1 a0 a1 a2 a3 hu1
  go_loopw [3] (fun i wr => ∃ k : Nat, k ≤ dt.length ∧ i = .int .i64 k ∧ Upd0 w1 wr ∧ Hid (X = datOk nm ty tl (prevD dt k) (dt.drop k))) (fun i _ => dt.length - (intOf i).toNat)
  case atStart => exact ⟨0, Nat.zero_le _, rfl, Upd.refl _ _, Lib.hid hXh.out⟩
  case round =>
    obtain ⟨k, hk, rfl, hu, hl⟩ := hrel
    obtain ⟨a0, a1, a2, a3⟩ := set4 (hu.block (fun h => h) b1h.out)
    have hsr := hw1h.out.up hu
    by_cases hlt : k < dt.length
    · obtain ⟨g, o, rfl, hg, hcs⟩ := hsr.some hlt
      obtain ⟨d, hx⟩ : ∃ x, dt[k]? = some x := ⟨dt[k], List.getElem?_eq_getElem hlt⟩
      have hc := hcs k d hx
      have hdl : d.length ≤ 70000 := hdh.out d (List.mem_of_getElem? hx)
      have hst := datOk_step nm ty tl hx
      have hb0 := Lib.hid (hu.block (fun h => h) b1h.out)
      by_cases h0 : recC nm ty tl d = 0
      · cases k with
        | zero =>
          have hl2 := Lib.hid (show X = datOk nm ty tl (prevD dt 1) (dt.drop 1) by rw [hl.out, hst, decide_eq_true h0]; rfl)
          have h0h := Lib.hid h0
          rw [Nat.add_zero] at hc
          clear hst h0 hx hcs hsr hl
          go_wp2_with (first
            | (go_at_call 54; (with_reducible refine (rrecCheck_w nm ty tl d hn hdl _).use ?_); rintro v w3 ⟨rfl, hu3⟩; rw [h0h.out]; obtain ⟨c0, c1, c2, c3⟩ := set4 (show w3.heap[w.heap.size]? = _ from hu3.block (fun h => h) hb0.out))
            | (with_reducible refine And.intro hu3.ext ?_)
            | ((with_reducible refine wp_serial3_1 0 [] [0, 1, 2, 3, 4, 5, 6, 7, 8, 9, 10, 11] 12 [13, 14, 15, 16, 17, 18, 19, 20, 24, 25, 26, 27, 28, 21, 22, 23, 29, 30, 31] [_, _, _, _, _, _, _, _, _, _, _, _] _ [_, _, _, _, _, _, _, _, _, _, _, _, _, _, _, _, _, _, _] (by kernel_rfl) (by decide +kernel) rfl rfl rfl ⟨Nat.zero_le _, fun s hs => absurd hs List.not_mem_nil⟩ (by repeat with_reducible (first | apply NoBad.then | apply NoBad.inBlock | apply NoBad.jump | exact NoBad.rets)) ?_); simp only [List.getElem_toArray, List.getElem_cons_succ, List.getElem_cons_zero])
            | (with_reducible refine wp_serial (by kernel_rfl) (by kernel_rfl) (by repeat with_reducible (first | apply NoBad.then | apply NoBad.inBlock | apply NoBad.jump | exact NoBad.rets)) ?_) | fail)
          go_roundw
          case rel => exact ⟨1, by omega, by go_num, (by repeat first | with_reducible (first | exact Upd.refl _ _ | assumption | apply Upd.drew | apply Upd.alloc) | refine Upd0.tr ?_ (by with_reducible assumption) | refine Upd.setCell ?_ (fun h => absurd h (by first | exact Nat.lt_irrefl _ | (simp only []; omega))) _), Lib.hid hl2.out⟩
          case measure => simp [intOf]; omega
        | succ m =>
          obtain ⟨q, hq⟩ : ∃ x, dt[m]? = some x := ⟨dt[m], List.getElem?_eq_getElem (by omega)⟩
          have hc2 := hcs m q hq
          have h0h := Lib.hid h0
          have hlx := Lib.hid (show X = (Op.bytesLess q d && datOk nm ty tl (prevD dt (m + 2)) (dt.drop (m + 2))) by rw [hl.out, hst, decide_eq_true h0]; simp only [prevD, hq, Bool.true_and])
          have hi : ((m + 1 : Nat) : Int) - 1 = m := by omega
          by_cases h1 : Op.bytesLess q d = true
          · have hge : (!Op.bytesLess q d) = false := by rw [h1]; rfl
            have hl2 := Lib.hid (show X = datOk nm ty tl (prevD dt (m + 2)) (dt.drop (m + 2)) by rw [hlx.out, h1, Bool.true_and])
            clear hst h0 hx hcs hsr hl hq hlx
            go_wp2_with (first
              | (go_at_call 54; (with_reducible refine (rrecCheck_w nm ty tl d hn hdl _).use ?_); rintro v w3 ⟨rfl, hu3⟩; rw [h0h.out]; obtain ⟨c0, c1, c2, c3⟩ := set4 (show w3.heap[w.heap.size]? = _ from hu3.block (fun h => h) hb0.out); have hc3 := (show w3.cell? ⟨g, o + m, none⟩ = _ from hu3.cell (fun h => h) hc2)); have hc1 := (show w3.cell? ⟨g, o + (m + 1), none⟩ = _ from hu3.cell (fun h => h) hc)
              | (with_reducible refine And.intro hu3.ext ?_)
              | ((with_reducible refine wp_serial3_1 0 [] [0, 1, 2, 3, 4, 5, 6, 7, 8, 9, 10, 11] 12 [13, 14, 15, 16, 17, 18, 19, 20, 24, 25, 26, 27, 28, 21, 22, 23, 29, 30, 31] [_, _, _, _, _, _, _, _, _, _, _, _] _ [_, _, _, _, _, _, _, _, _, _, _, _, _, _, _, _, _, _, _] (by kernel_rfl) (by decide +kernel) rfl rfl rfl ⟨Nat.zero_le _, fun s hs => absurd hs List.not_mem_nil⟩ (by repeat with_reducible (first | apply NoBad.then | apply NoBad.inBlock | apply NoBad.jump | exact NoBad.rets)) ?_); simp only [List.getElem_toArray, List.getElem_cons_succ, List.getElem_cons_zero])
              | (with_reducible refine wp_serial (by kernel_rfl) (by kernel_rfl) (by repeat with_reducible (first | apply NoBad.then | apply NoBad.inBlock | apply NoBad.jump | exact NoBad.rets)) ?_) | fail)
            go_roundw
            case rel => exact ⟨m + 2, by omega, by go_num, (by repeat first | with_reducible (first | exact Upd.refl _ _ | assumption | apply Upd.drew | apply Upd.alloc) | refine Upd0.tr ?_ (by with_reducible assumption) | refine Upd.setCell ?_ (fun h => absurd h (by first | exact Nat.lt_irrefl _ | (simp only []; omega))) _), Lib.hid hl2.out⟩
            case measure => simp [intOf]; omega
          · have h1' : Op.bytesLess q d = false := by cases h : Op.bytesLess q d <;> simp_all
            have hge : (!Op.bytesLess q d) = true := by rw [h1']; rfl
            have hl2 := Lib.hid (show X = false by rw [hlx.out, h1', Bool.false_and])
            clear hst h0 hx hcs hsr hl hq hlx h1
            go_wp2_with (first
              | (go_at_call 54; (with_reducible refine (rrecCheck_w nm ty tl d hn hdl _).use ?_); rintro v w3 ⟨rfl, hu3⟩; rw [h0h.out]; obtain ⟨c0, c1, c2, c3⟩ := set4 (show w3.heap[w.heap.size]? = _ from hu3.block (fun h => h) hb0.out); have hc3 := (show w3.cell? ⟨g, o + m, none⟩ = _ from hu3.cell (fun h => h) hc2)); have hc1 := (show w3.cell? ⟨g, o + (m + 1), none⟩ = _ from hu3.cell (fun h => h) hc)
              | (with_reducible refine And.intro hu3.ext ?_)
              | ((with_reducible refine wp_serial3_1 0 [] [0, 1, 2, 3, 4, 5, 6, 7, 8, 9, 10, 11] 12 [13, 14, 15, 16, 17, 18, 19, 20, 24, 25, 26, 27, 28, 21, 22, 23, 29, 30, 31] [_, _, _, _, _, _, _, _, _, _, _, _] _ [_, _, _, _, _, _, _, _, _, _, _, _, _, _, _, _, _, _, _] (by kernel_rfl) (by decide +kernel) rfl rfl rfl ⟨Nat.zero_le _, fun s hs => absurd hs List.not_mem_nil⟩ (by repeat with_reducible (first | apply NoBad.then | apply NoBad.inBlock | apply NoBad.jump | exact NoBad.rets)) ?_); simp only [List.getElem_toArray, List.getElem_cons_succ, List.getElem_cons_zero])
              | (with_reducible refine wp_serial (by kernel_rfl) (by kernel_rfl) (by repeat with_reducible (first | apply NoBad.then | apply NoBad.inBlock | apply NoBad.jump | exact NoBad.rets)) ?_) | fail)
            all_goals go_returns
            all_goals exact ⟨by rw [hl2.out]; rfl, (by repeat first | with_reducible (first | exact Upd.refl _ _ | assumption | apply Upd.drew | apply Upd.alloc) | refine Upd0.tr ?_ (by with_reducible assumption) | refine Upd.setCell ?_ (fun h => absurd h (by first | exact Nat.lt_irrefl _ | (simp only []; omega))) _)⟩
      · have hne := Lib.hid (show (recC nm ty tl d != 0) = true by simpa using h0)
        have hl2 := Lib.hid (show X = false by rw [hl.out, hst, decide_eq_false h0, Bool.false_and])
        clear hst h0 hx hcs hsr hl
        go_wp2_with (first
          | (go_at_call 54; (with_reducible refine (rrecCheck_w nm ty tl d hn hdl _).use ?_); rintro v w3 ⟨rfl, hu3⟩; obtain ⟨c0, c1, c2, c3⟩ := set4 (show w3.heap[w.heap.size]? = _ from hu3.block (fun h => h) hb0.out); have hnx := hne.out)
          | (with_reducible refine And.intro hu3.ext ?_)
          | ((with_reducible refine wp_serial3_1 0 [] [0, 1, 2, 3, 4, 5, 6, 7, 8, 9, 10, 11] 12 [13, 14, 15, 16, 17, 18, 19, 20, 24, 25, 26, 27, 28, 21, 22, 23, 29, 30, 31] [_, _, _, _, _, _, _, _, _, _, _, _] _ [_, _, _, _, _, _, _, _, _, _, _, _, _, _, _, _, _, _, _] (by kernel_rfl) (by decide +kernel) rfl rfl rfl ⟨Nat.zero_le _, fun s hs => absurd hs List.not_mem_nil⟩ (by repeat with_reducible (first | apply NoBad.then | apply NoBad.inBlock | apply NoBad.jump | exact NoBad.rets)) ?_); simp only [List.getElem_toArray, List.getElem_cons_succ, List.getElem_cons_zero])
          | (with_reducible refine wp_serial (by kernel_rfl) (by kernel_rfl) (by repeat with_reducible (first | apply NoBad.then | apply NoBad.inBlock | apply NoBad.jump | exact NoBad.rets)) ?_) | fail)
        all_goals go_returns
        all_goals exact ⟨by rw [hl2.out]; rfl, (by repeat first | with_reducible (first | exact Upd.refl _ _ | assumption | apply Upd.drew | apply Upd.alloc) | refine Upd0.tr ?_ (by with_reducible assumption) | refine Upd.setCell ?_ (fun h => absurd h (by first | exact Nat.lt_irrefl _ | (simp only []; omega))) _)⟩
    · have hl2 := Lib.hid (show X = true by rw [hl.out, List.drop_eq_nil_of_le (by omega)]; cases prevD dt k <;> rfl)
      clear hl hsr
      go_wp2_with (first | (with_reducible refine wp_serial (by kernel_rfl) (by kernel_rfl) (by repeat with_reducible (first | apply NoBad.then | apply NoBad.inBlock | apply NoBad.jump | exact NoBad.rets)) ?_) | fail)
      all_goals go_returns
      all_goals exact ⟨by rw [hl2.out]; rfl, (by repeat first | with_reducible (first | exact Upd.refl _ _ | assumption | apply Upd.drew | apply Upd.alloc) | refine Upd0.tr ?_ (by with_reducible assumption) | refine Upd.setCell ?_ (fun h => absurd h (by first | exact Nat.lt_irrefl _ | (simp only []; omega))) _)⟩


set_option maxRecDepth 100000 in
set_option maxHeartbeats 4000000 in
theorem rmay_w (s : St) (ao : Option Addr) (cap : Nat) (hn : s.nm.length ≤ 70000) (hd : ∀ d ∈ s.dt, d.length ≤ 70000) (h3 : s.dt.length ≤ 20) (w : World) (hS : SR w ao s.dt) :
    Calls Try.prog 84 #[s.val ao cap] w (Rets fun r w' => r = .bool (mayS s) ∧ Upd0 w w') := by
  by_cases h1 : fold s.nm = s.nm
  · by_cases h2 : 1 ≤ s.dt.length
    · have := rmay_ok s ao cap hn hd h1 h2 h3 w hS
      rwa [← mayS_yes h1 h2 h3] at this
    · have hX := Lib.hid (mayS_no2 h2)
      have hfh := Lib.hid h1
      have h0 : s.dt.length = 0 := by omega
      obtain ⟨nm, ty, tl, dt⟩ := s
      simp only [St.val] at hn hd h0 hfh ⊢
      rw [h0]
      clear hS hd h2 h1 h3 h0
      go_enter Try.func84, Try.ntmps84
      go_wp2_with (first
        | (go_at_call 28; (with_reducible refine (rfold_w nm hn _).use ?_); rintro v w1 ⟨rfl, hu1⟩; rw [hfh.out]; have b1 := Lib.hid (hu1.block (fun h => h) (by first | exact alloc_last _ _ w.heap.size rfl | exact (alloc_last _ _ w.heap.size rfl))); obtain ⟨a0, a1, a2, a3⟩ := set4 b1.out)
        | (with_reducible refine And.intro hu1.ext ?_)
        | (with_reducible refine wp_serial3_1 0 [] [0, 1, 3, 4] 2 [5, 6, 7, 8, 9, 10, 11, 12, 13, 14, 15, 16, 17] [_, _, _, _] _ [_, _, _, _, _, _, _, _, _, _, _, _, _] (by kernel_rfl) (by decide +kernel) rfl rfl rfl ⟨Nat.zero_le _, fun s hs => absurd hs List.not_mem_nil⟩ (by repeat with_reducible (first | apply NoBad.then | apply NoBad.inBlock | apply NoBad.jump | exact NoBad.rets)) ?_)
        | (with_reducible refine wp_serial (by kernel_rfl) (by kernel_rfl) (by repeat with_reducible (first | apply NoBad.then | apply NoBad.inBlock | apply NoBad.jump | exact NoBad.rets)) ?_)
        | fail)
      all_goals go_returns
      all_goals exact ⟨by rw [hX.out]; rfl, (by repeat first | with_reducible (first | exact Upd.refl _ _ | assumption | apply Upd.drew | apply Upd.alloc) | refine Upd0.tr ?_ (by with_reducible assumption) | refine Upd.setCell ?_ (fun h => absurd h (by first | exact Nat.lt_irrefl _ | (simp only []; omega))) _)⟩
  · have hX := Lib.hid (mayS_no1 h1)
    have hne := Lib.hid (show (fold s.nm == s.nm) = false ∧ ¬ fold s.nm = s.nm from ⟨beq_eq_false_iff_ne.2 h1, h1⟩)
    obtain ⟨nm, ty, tl, dt⟩ := s
    simp only [St.val] at hn hd hne ⊢
    clear hS hd h1 h3
    go_enter Try.func84, Try.ntmps84
    go_wp2_with (first
      | (go_at_call 28; (with_reducible refine (rfold_w nm hn _).use ?_); rintro v w1 ⟨rfl, hu1⟩; obtain ⟨hnx, hny⟩ := hne.out; have b1 := Lib.hid (hu1.block (fun h => h) (by first | exact alloc_last _ _ w.heap.size rfl | exact (alloc_last _ _ w.heap.size rfl))); obtain ⟨a0, a1, a2, a3⟩ := set4 b1.out)
      | (with_reducible refine And.intro hu1.ext ?_)
      | (with_reducible refine wp_serial3_1 0 [] [0, 1, 3, 4] 2 [5, 6, 7, 8, 9, 10, 11, 12, 13, 14, 15, 16, 17] [_, _, _, _] _ [_, _, _, _, _, _, _, _, _, _, _, _, _] (by kernel_rfl) (by decide +kernel) rfl rfl rfl ⟨Nat.zero_le _, fun s hs => absurd hs List.not_mem_nil⟩ (by repeat with_reducible (first | apply NoBad.then | apply NoBad.inBlock | apply NoBad.jump | exact NoBad.rets)) ?_)
      | (with_reducible refine wp_serial (by kernel_rfl) (by kernel_rfl) (by repeat with_reducible (first | apply NoBad.then | apply NoBad.inBlock | apply NoBad.jump | exact NoBad.rets)) ?_)
      | fail)
    all_goals go_returns
    all_goals exact ⟨by rw [hX.out]; rfl, (by repeat first | with_reducible (first | exact Upd.refl _ _ | assumption | apply Upd.drew | apply Upd.alloc) | refine Upd0.tr ?_ (by with_reducible assumption) | refine Upd.setCell ?_ (fun h => absurd h (by first | exact Nat.lt_irrefl _ | (simp only []; omega))) _)⟩
end Go.Proofs.Ytijmbpokglohbaa
