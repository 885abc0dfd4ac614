/-
  Lists of one set: whether they may be, whether they are small; copies; equality.
-/
import Derived.Test.YtijmbpokglohbaaSeB
namespace Go.Proofs.Ytijmbpokglohbaa
open Go.RowKit
set_option linter.unusedSimpArgs false
set_option linter.unusedVariables false
def setC (s : St) (ao : Option Addr) (cap : Nat) : Array Value := #[.string ⟨s.nm.toArray⟩, .int .i64 s.ty, .int .i64 s.tl, .slice ao s.dt.length cap]
def ckS (s : St) : Int := if mayS s then 0 else 1
set_option maxRecDepth 100000 in
set_option maxHeartbeats 2000000 in
theorem check1_w (s : St) (g : Nat) (ao : Option Addr) (cap : Nat) (hn : s.nm.length ≤ 70000) (hd : ∀ d ∈ s.dt, d.length ≤ 70000) (h3 : s.dt.length ≤ 20) (w : World) (hb : w.heap[g]? = some (.cells (setC s ao cap) 60 (0, 0))) (hS : SR w ao s.dt) :
    Calls Try.prog 41 #[.slice (some ⟨g, 0, none⟩) 1 1] w (Rets fun r w' => r = .int .i64 (ckS s) ∧ Upd0 w w') := by
  have hbh := Lib.hid hb
  have hSh := Lib.hid hS
  have hdh := Lib.hid hd
  have hgl := blk_lt hb
  obtain ⟨a0, a1, a2, a3⟩ := set4 hb
  have hw0 := fun w (k : SR w ao s.dt) => may_w s ao cap hn hd h3 w k
  simp only [St.val] at hw0
  have hwh := Lib.hid hw0
  clear hw0
  clear hS hd hb
  cases hm : mayS s with
  | true =>
    have hmh := Lib.hid hm
    have hck := Lib.hid (show ckS s = 0 by rw [ckS, hm]; rfl)
    clear hm
    go_enter Try.func41, Try.ntmps41
    go_wp2_with (first | (with_reducible refine wp_serial (by kernel_rfl) (by kernel_rfl) (by repeat with_reducible (first | apply NoBad.then | apply NoBad.inBlock | apply NoBad.jump | exact NoBad.rets)) ?_) | fail)
    go_loopw [10] (fun i wr => (i = .int .i64 0 ∨ i = .int .i64 1) ∧ Upd0 w wr) (fun i _ => 1 - (intOf i).toNat)
    case atStart => exact ⟨.inl rfl, Upd.refl _ _⟩
    case round =>
      obtain ⟨rfl | rfl, hu⟩ := hrel
      · obtain ⟨a0, a1, a2, a3⟩ := set4 (hu.block (fun h => h) hbh.out)
        have hsr := Lib.hid (hSh.out.up hu)
        have hg2 := blk_lt (hu.block (fun h => h) hbh.out)
        go_wp2_with (first
          | (go_at_call 67; (with_reducible refine (hwh.out _ (hsr.out.up (by repeat first | with_reducible (first | exact Upd.refl _ _ | assumption | apply Upd.drew | apply Upd.alloc) | refine Upd0.tr ?_ (by with_reducible assumption) | refine Upd.setCell ?_ (fun h => absurd h (by first | exact Nat.lt_irrefl _ | (simp only []; omega))) _))).use ?_); rintro v w3 ⟨rfl, hu3⟩; rw [hmh.out])
          | (with_reducible refine And.intro hu3.ext ?_)
          | (with_reducible refine And.intro (Ext.refl _) ?_)
          | ((with_reducible refine wp_serial3_2 0 [] [0] 1 [2, 3, 4, 5, 6, 7, 8, 12, 9, 10, 11] 13 [14, 15, 16] [_] _ [_, _, _, _, _, _, _, _, _, _, _] _ [_, _, _] (by kernel_rfl) (by decide +kernel) rfl rfl rfl rfl rfl ⟨Nat.zero_le _, fun s hs => absurd hs List.not_mem_nil⟩ (by repeat with_reducible (first | apply NoBad.then | apply NoBad.inBlock | apply NoBad.jump | exact NoBad.rets)) ?_); simp only [List.getElem_toArray, List.getElem_cons_succ, List.getElem_cons_zero])
          | (with_reducible refine wp_serial (by kernel_rfl) (by kernel_rfl) (by repeat with_reducible (first | apply NoBad.then | apply NoBad.inBlock | apply NoBad.jump | exact NoBad.rets)) ?_) | fail)
        go_roundw
        case rel => exact ⟨.inr rfl, (by repeat first | with_reducible (first | exact Upd.refl _ _ | assumption | apply Upd.drew | apply Upd.alloc) | refine Upd0.tr ?_ (by with_reducible assumption) | refine Upd.setCell ?_ (fun h => absurd h (by first | exact Nat.lt_irrefl _ | (simp only []; omega))) _)⟩
        case measure => simp [intOf]
      · go_wp2_with (first | (with_reducible refine wp_serial (by kernel_rfl) (by kernel_rfl) (by repeat with_reducible (first | apply NoBad.then | apply NoBad.inBlock | apply NoBad.jump | exact NoBad.rets)) ?_) | fail)
        all_goals go_returns
        all_goals exact ⟨by rw [hck.out]; rfl, (by repeat first | with_reducible (first | exact Upd.refl _ _ | assumption | apply Upd.drew | apply Upd.alloc) | refine Upd0.tr ?_ (by with_reducible assumption) | refine Upd.setCell ?_ (fun h => absurd h (by first | exact Nat.lt_irrefl _ | (simp only []; omega))) _)⟩
  | false =>
    have hmh := Lib.hid hm
    have hck := Lib.hid (show ckS s = 1 by rw [ckS, hm]; rfl)
    clear hm
    go_enter Try.func41, Try.ntmps41
    go_wp2_with (first | (with_reducible refine wp_serial (by kernel_rfl) (by kernel_rfl) (by repeat with_reducible (first | apply NoBad.then | apply NoBad.inBlock | apply NoBad.jump | exact NoBad.rets)) ?_) | fail)
    go_loopw [10] (fun i wr => i = .int .i64 0 ∧ Upd0 w wr) (fun i _ => 0)
    case atStart => exact ⟨rfl, Upd.refl _ _⟩
    case round =>
      obtain ⟨rfl, hu⟩ := hrel
      obtain ⟨a0, a1, a2, a3⟩ := set4 (hu.block (fun h => h) hbh.out)
      have hsr := Lib.hid (hSh.out.up hu)
      have hg2 := blk_lt (hu.block (fun h => h) hbh.out)
      go_wp2_with (first
        | (go_at_call 67; (with_reducible refine (hwh.out _ (hsr.out.up (by repeat first | with_reducible (first | exact Upd.refl _ _ | assumption | apply Upd.drew | apply Upd.alloc) | refine Upd0.tr ?_ (by with_reducible assumption) | refine Upd.setCell ?_ (fun h => absurd h (by first | exact Nat.lt_irrefl _ | (simp only []; omega))) _))).use ?_); rintro v w3 ⟨rfl, hu3⟩; rw [hmh.out])
        | (with_reducible refine And.intro hu3.ext ?_)
        | (with_reducible refine And.intro (Ext.refl _) ?_)
        | ((with_reducible refine wp_serial3_2 0 [] [0] 1 [2, 3, 4, 5, 6, 7, 8, 12, 9, 10, 11] 13 [14, 15, 16] [_] _ [_, _, _, _, _, _, _, _, _, _, _] _ [_, _, _] (by kernel_rfl) (by decide +kernel) rfl rfl rfl rfl rfl ⟨Nat.zero_le _, fun s hs => absurd hs List.not_mem_nil⟩ (by repeat with_reducible (first | apply NoBad.then | apply NoBad.inBlock | apply NoBad.jump | exact NoBad.rets)) ?_); simp only [List.getElem_toArray, List.getElem_cons_succ, List.getElem_cons_zero])
        | (with_reducible refine wp_serial (by kernel_rfl) (by kernel_rfl) (by repeat with_reducible (first | apply NoBad.then | apply NoBad.inBlock | apply NoBad.jump | exact NoBad.rets)) ?_) | fail)
      all_goals go_returns
      all_goals exact ⟨by rw [hck.out]; rfl, (by repeat first | with_reducible (first | exact Upd.refl _ _ | assumption | apply Upd.drew | apply Upd.alloc) | refine Upd0.tr ?_ (by with_reducible assumption) | refine Upd.setCell ?_ (fun h => absurd h (by first | exact Nat.lt_irrefl _ | (simp only []; omega))) _)⟩
set_option maxRecDepth 100000 in
set_option maxHeartbeats 2000000 in
theorem rcheck1_w (s : St) (g : Nat) (ao : Option Addr) (cap : Nat) (hn : s.nm.length ≤ 70000) (hd : ∀ d ∈ s.dt, d.length ≤ 70000) (h3 : s.dt.length ≤ 20) (w : World) (hb : w.heap[g]? = some (.cells (setC s ao cap) 60 (0, 0))) (hS : SR w ao s.dt) :
    Calls Try.prog 61 #[.slice (some ⟨g, 0, none⟩) 1 1] w (Rets fun r w' => r = .int .i64 (ckS s) ∧ Upd0 w w') := by
  have hbh := Lib.hid hb
  have hSh := Lib.hid hS
  have hdh := Lib.hid hd
  have hgl := blk_lt hb
  obtain ⟨a0, a1, a2, a3⟩ := set4 hb
  have hw0 := fun w (k : SR w ao s.dt) => rmay_w s ao cap hn hd h3 w k
  simp only [St.val] at hw0
  have hwh := Lib.hid hw0
  clear hw0
  clear hS hd hb
  cases hm : mayS s with
  | true =>
    have hmh := Lib.hid hm
    have hck := Lib.hid (show ckS s = 0 by rw [ckS, hm]; rfl)
    clear hm
    go_enter Try.func61, Try.ntmps61
    go_wp2_with (first | (with_reducible refine wp_serial (by kernel_rfl) (by kernel_rfl) (by repeat with_reducible (first | apply NoBad.then | apply NoBad.inBlock | apply NoBad.jump | exact NoBad.rets)) ?_) | fail)
    go_loopw [3] (fun i wr => (i = .int .i64 0 ∨ i = .int .i64 1) ∧ Upd0 w wr) (fun i _ => 1 - (intOf i).toNat)
    case atStart => exact ⟨.inl rfl, Upd.refl _ _⟩
    case round =>
      obtain ⟨rfl | rfl, hu⟩ := hrel
      · obtain ⟨a0, a1, a2, a3⟩ := set4 (hu.block (fun h => h) hbh.out)
        have hsr := Lib.hid (hSh.out.up hu)
        have hg2 := blk_lt (hu.block (fun h => h) hbh.out)
        go_wp2_with (first
          | (go_at_call 84; (with_reducible refine (hwh.out _ (hsr.out.up (by repeat first | with_reducible (first | exact Upd.refl _ _ | assumption | apply Upd.drew | apply Upd.alloc) | refine Upd0.tr ?_ (by with_reducible assumption) | refine Upd.setCell ?_ (fun h => absurd h (by first | exact Nat.lt_irrefl _ | (simp only []; omega))) _))).use ?_); rintro v w3 ⟨rfl, hu3⟩; rw [hmh.out])
          | (with_reducible refine And.intro hu3.ext ?_)
          | (with_reducible refine And.intro (Ext.refl _) ?_)
          | ((with_reducible refine wp_serial3_2 0 [] [0, 1, 2, 3] 4 [5, 6, 7, 8, 9, 10, 11, 15, 16, 17, 18, 12, 13, 14] 19 [20, 21, 22] [_, _, _, _] _ [_, _, _, _, _, _, _, _, _, _, _, _, _, _] _ [_, _, _] (by kernel_rfl) (by decide +kernel) rfl rfl rfl rfl rfl ⟨Nat.zero_le _, fun s hs => absurd hs List.not_mem_nil⟩ (by repeat with_reducible (first | apply NoBad.then | apply NoBad.inBlock | apply NoBad.jump | exact NoBad.rets)) ?_); simp only [List.getElem_toArray, List.getElem_cons_succ, List.getElem_cons_zero])
          | (with_reducible refine wp_serial (by kernel_rfl) (by kernel_rfl) (by repeat with_reducible (first | apply NoBad.then | apply NoBad.inBlock | apply NoBad.jump | exact NoBad.rets)) ?_) | fail)
        go_roundw
        case rel => exact ⟨.inr rfl, (by repeat first | with_reducible (first | exact Upd.refl _ _ | assumption | apply Upd.drew | apply Upd.alloc) | refine Upd0.tr ?_ (by with_reducible assumption) | refine Upd.setCell ?_ (fun h => absurd h (by first | exact Nat.lt_irrefl _ | (simp only []; omega))) _)⟩
        case measure => simp [intOf]
      · go_wp2_with (first | (with_reducible refine wp_serial (by kernel_rfl) (by kernel_rfl) (by repeat with_reducible (first | apply NoBad.then | apply NoBad.inBlock | apply NoBad.jump | exact NoBad.rets)) ?_) | fail)
        all_goals go_returns
        all_goals exact ⟨by rw [hck.out]; rfl, (by repeat first | with_reducible (first | exact Upd.refl _ _ | assumption | apply Upd.drew | apply Upd.alloc) | refine Upd0.tr ?_ (by with_reducible assumption) | refine Upd.setCell ?_ (fun h => absurd h (by first | exact Nat.lt_irrefl _ | (simp only []; omega))) _)⟩
  | false =>
    have hmh := Lib.hid hm
    have hck := Lib.hid (show ckS s = 1 by rw [ckS, hm]; rfl)
    clear hm
    go_enter Try.func61, Try.ntmps61
    go_wp2_with (first | (with_reducible refine wp_serial (by kernel_rfl) (by kernel_rfl) (by repeat with_reducible (first | apply NoBad.then | apply NoBad.inBlock | apply NoBad.jump | exact NoBad.rets)) ?_) | fail)
    go_loopw [3] (fun i wr => i = .int .i64 0 ∧ Upd0 w wr) (fun i _ => 0)
    case atStart => exact ⟨rfl, Upd.refl _ _⟩
    case round =>
      obtain ⟨rfl, hu⟩ := hrel
      obtain ⟨a0, a1, a2, a3⟩ := set4 (hu.block (fun h => h) hbh.out)
      have hsr := Lib.hid (hSh.out.up hu)
      have hg2 := blk_lt (hu.block (fun h => h) hbh.out)
      go_wp2_with (first
        | (go_at_call 84; (with_reducible refine (hwh.out _ (hsr.out.up (by repeat first | with_reducible (first | exact Upd.refl _ _ | assumption | apply Upd.drew | apply Upd.alloc) | refine Upd0.tr ?_ (by with_reducible assumption) | refine Upd.setCell ?_ (fun h => absurd h (by first | exact Nat.lt_irrefl _ | (simp only []; omega))) _))).use ?_); rintro v w3 ⟨rfl, hu3⟩; rw [hmh.out])
        | (with_reducible refine And.intro hu3.ext ?_)
        | (with_reducible refine And.intro (Ext.refl _) ?_)
        | ((with_reducible refine wp_serial3_2 0 [] [0, 1, 2, 3] 4 [5, 6, 7, 8, 9, 10, 11, 15, 16, 17, 18, 12, 13, 14] 19 [20, 21, 22] [_, _, _, _] _ [_, _, _, _, _, _, _, _, _, _, _, _, _, _] _ [_, _, _] (by kernel_rfl) (by decide +kernel) rfl rfl rfl rfl rfl ⟨Nat.zero_le _, fun s hs => absurd hs List.not_mem_nil⟩ (by repeat with_reducible (first | apply NoBad.then | apply NoBad.inBlock | apply NoBad.jump | exact NoBad.rets)) ?_); simp only [List.getElem_toArray, List.getElem_cons_succ, List.getElem_cons_zero])
        | (with_reducible refine wp_serial (by kernel_rfl) (by kernel_rfl) (by repeat with_reducible (first | apply NoBad.then | apply NoBad.inBlock | apply NoBad.jump | exact NoBad.rets)) ?_) | fail)
      all_goals go_returns
      all_goals exact ⟨by rw [hck.out]; rfl, (by repeat first | with_reducible (first | exact Upd.refl _ _ | assumption | apply Upd.drew | apply Upd.alloc) | refine Upd0.tr ?_ (by with_reducible assumption) | refine Upd.setCell ?_ (fun h => absurd h (by first | exact Nat.lt_irrefl _ | (simp only []; omega))) _)⟩
end Go.Proofs.Ytijmbpokglohbaa
