/-
  Whether a set is small.
-/
import Derived.Test.YtijmbpokglohbaaSeC
namespace Go.Proofs.Ytijmbpokglohbaa
open Go.RowKit
set_option linter.unusedSimpArgs false
set_option linter.unusedVariables false
def fewS (s : St) : Bool := decide (s.dt.length ≤ 12) && (decide (s.nm.length ≤ 300) && s.dt.all fun d => decide (d.length ≤ 300))
theorem fewS_no1 {s : St} (h : ¬ s.dt.length ≤ 12) : fewS s = false := by rw [fewS, decide_eq_false h]; rfl
theorem fewS_no2 {s : St} (h : ¬ s.nm.length ≤ 300) : fewS s = false := by rw [fewS, decide_eq_false h, Bool.false_and, Bool.and_false]
theorem fewS_yes {s : St} (h1 : s.dt.length ≤ 12) (h2 : s.nm.length ≤ 300) : fewS s = s.dt.all fun d => decide (d.length ≤ 300) := by rw [fewS, decide_eq_true h1, decide_eq_true h2]; rfl
theorem all_step {l : List Bs} {k : Nat} {d : Bs} (h : l[k]? = some d) (f : Bs → Bool) : (l.drop k).all f = (f d && (l.drop (k + 1)).all f) := by rw [drop_at h]; rfl
set_option maxRecDepth 100000 in
set_option maxHeartbeats 2000000 in
theorem few1_w (s : St) (g : Nat) (ao : Option Addr) (cap : Nat) (w : World) (hb : w.heap[g]? = some (.cells (setC s ao cap) 60 (0, 0))) (hS : SR w ao s.dt) :
    Calls Try.prog 58 #[.slice (some ⟨g, 0, none⟩) 1 1] w (Rets fun r w' => r = .bool (fewS s) ∧ Upd0 w w') := by
  have hbh := Lib.hid hb
  have hSh := Lib.hid hS
  have hgl := blk_lt hb
  clear hS hb
  by_cases h1 : s.dt.length ≤ 12
  · by_cases h2 : s.nm.length ≤ 300
    · obtain ⟨X, hX⟩ : ∃ X, X = fewS s := ⟨_, rfl⟩
      rw [← hX]
      have hXh := Lib.hid (show X = (s.dt.drop 0).all (fun d => decide (d.length ≤ 300)) by rw [hX, fewS_yes h1 h2]; rfl)
      clear hX
      go_enter Try.func58, Try.ntmps58
      go_wp2_with (first | (with_reducible refine wp_serial (by kernel_rfl) (by kernel_rfl) (by repeat with_reducible (first | apply NoBad.then | apply NoBad.inBlock | apply NoBad.jump | exact NoBad.rets)) ?_) | fail)
      go_loopw [3] (fun i wr => (i = .int .i64 0 ∨ (i = .int .i64 1 ∧ X = true)) ∧ Upd0 w wr) (fun i _ => 1 - (intOf i).toNat)
      case atStart => exact ⟨.inl rfl, Upd.refl _ _⟩
      case round =>
        obtain ⟨rfl | ⟨rfl, hXt⟩, hu⟩ := hrel
        · obtain ⟨a0, a1, a2, a3⟩ := set4 (hu.block (fun h => h) hbh.out)
          have hg2 := blk_lt (hu.block (fun h => h) hbh.out)
          obtain ⟨wz, rfl⟩ : ∃ wz, wz = wr := ⟨_, rfl⟩
          go_wp2_with (first | (with_reducible refine wp_serial (by kernel_rfl) (by kernel_rfl) (by repeat with_reducible (first | apply NoBad.then | apply NoBad.inBlock | apply NoBad.jump | exact NoBad.rets)) ?_) | fail)
          go_loopw [4] (fun i wr => ∃ k : Nat, k ≤ s.dt.length ∧ i = .int .i64 k ∧ Upd0 w wr ∧ Hid (X = (s.dt.drop k).all (fun d => decide (d.length ≤ 300)))) (fun i _ => s.dt.length - (intOf i).toNat)
          case atStart => exact ⟨0, Nat.zero_le _, rfl, hu, Lib.hid hXh.out⟩
          case round =>
            obtain ⟨k, hk, rfl, hu', hl⟩ := hrel
            obtain ⟨e0, e1, e2, e3⟩ := set4 (hu'.block (fun h => h) hbh.out)
            have hg3 := blk_lt (hu'.block (fun h => h) hbh.out)
            by_cases hlt : k < s.dt.length
            · obtain ⟨gg, o, rfl, hg, hcs⟩ := (hSh.out.up hu').some hlt
              obtain ⟨d, hx⟩ : ∃ x, s.dt[k]? = some x := ⟨s.dt[k], List.getElem?_eq_getElem hlt⟩
              have hc := hcs k d hx
              have hst := all_step hx (fun d => decide (d.length ≤ 300))
              by_cases hd : d.length ≤ 300
              · have hl2 := Lib.hid (show X = (s.dt.drop (k + 1)).all (fun d => decide (d.length ≤ 300)) by rw [hl.out, hst, decide_eq_true hd, Bool.true_and])
                clear hst hx hcs hl
                go_wp2_with (first | (with_reducible refine wp_serial (by kernel_rfl) (by kernel_rfl) (by repeat with_reducible (first | apply NoBad.then | apply NoBad.inBlock | apply NoBad.jump | exact NoBad.rets)) ?_) | fail)
                go_roundw
                case rel => exact ⟨k + 1, by omega, by go_num, (by repeat first | with_reducible (first | exact Upd.refl _ _ | assumption | apply Upd.drew | apply Upd.alloc) | refine Upd0.tr ?_ (by with_reducible assumption) | refine Upd.setCell ?_ (fun h => absurd h (by first | exact Nat.lt_irrefl _ | (simp only []; omega))) _), Lib.hid hl2.out⟩
                case measure => simp [intOf]; omega
              · have hl2 := Lib.hid (show X = false by rw [hl.out, hst, decide_eq_false hd, Bool.false_and])
                clear hst hx hcs hl
                go_wp2_with (first | (with_reducible refine wp_serial (by kernel_rfl) (by kernel_rfl) (by repeat with_reducible (first | apply NoBad.then | apply NoBad.inBlock | apply NoBad.jump | exact NoBad.rets)) ?_) | fail)
                all_goals go_returns
                all_goals exact ⟨by rw [hl2.out]; rfl, (by repeat first | with_reducible (first | exact Upd.refl _ _ | assumption | apply Upd.drew | apply Upd.alloc) | refine Upd0.tr ?_ (by with_reducible assumption) | refine Upd.setCell ?_ (fun h => absurd h (by first | exact Nat.lt_irrefl _ | (simp only []; omega))) _)⟩
            · have hl2 : X = true := by rw [hl.out, List.drop_eq_nil_of_le (by omega)]; rfl
              have hl2h := Lib.hid hl2
              clear hl hl2
              go_wp2_with (first | (with_reducible refine wp_serial (by kernel_rfl) (by kernel_rfl) (by repeat with_reducible (first | apply NoBad.then | apply NoBad.inBlock | apply NoBad.jump | exact NoBad.rets)) ?_) | fail)
              go_roundw
              case rel => exact ⟨.inr ⟨rfl, hl2h.out⟩, (by repeat first | with_reducible (first | exact Upd.refl _ _ | assumption | apply Upd.drew | apply Upd.alloc) | refine Upd0.tr ?_ (by with_reducible assumption) | refine Upd.setCell ?_ (fun h => absurd h (by first | exact Nat.lt_irrefl _ | (simp only []; omega))) _)⟩
              case measure => simp [intOf]
        · go_wp2_with (first | (with_reducible refine wp_serial (by kernel_rfl) (by kernel_rfl) (by repeat with_reducible (first | apply NoBad.then | apply NoBad.inBlock | apply NoBad.jump | exact NoBad.rets)) ?_) | fail)
          all_goals go_returns
          all_goals exact ⟨by rw [hXt]; rfl, (by repeat first | with_reducible (first | exact Upd.refl _ _ | assumption | apply Upd.drew | apply Upd.alloc) | refine Upd0.tr ?_ (by with_reducible assumption) | refine Upd.setCell ?_ (fun h => absurd h (by first | exact Nat.lt_irrefl _ | (simp only []; omega))) _)⟩
    · have hck := Lib.hid (fewS_no2 h2)
      go_enter Try.func58, Try.ntmps58
      go_wp2_with (first | (with_reducible refine wp_serial (by kernel_rfl) (by kernel_rfl) (by repeat with_reducible (first | apply NoBad.then | apply NoBad.inBlock | apply NoBad.jump | exact NoBad.rets)) ?_) | fail)
      go_loopw [3] (fun i wr => i = .int .i64 0 ∧ Upd0 w wr) (fun i _ => 0)
      case atStart => exact ⟨rfl, Upd.refl _ _⟩
      case round =>
        obtain ⟨rfl, hu⟩ := hrel
        obtain ⟨a0, a1, a2, a3⟩ := set4 (hu.block (fun h => h) hbh.out)
        have hg2 := blk_lt (hu.block (fun h => h) hbh.out)
        go_wp2_with (first | (with_reducible refine wp_serial (by kernel_rfl) (by kernel_rfl) (by repeat with_reducible (first | apply NoBad.then | apply NoBad.inBlock | apply NoBad.jump | exact NoBad.rets)) ?_) | fail)
        all_goals go_returns
        all_goals exact ⟨by rw [hck.out]; rfl, (by repeat first | with_reducible (first | exact Upd.refl _ _ | assumption | apply Upd.drew | apply Upd.alloc) | refine Upd0.tr ?_ (by with_reducible assumption) | refine Upd.setCell ?_ (fun h => absurd h (by first | exact Nat.lt_irrefl _ | (simp only []; omega))) _)⟩
  · have hck := Lib.hid (fewS_no1 h1)
    go_enter Try.func58, Try.ntmps58
    go_wp2_with (first | (with_reducible refine wp_serial (by kernel_rfl) (by kernel_rfl) (by repeat with_reducible (first | apply NoBad.then | apply NoBad.inBlock | apply NoBad.jump | exact NoBad.rets)) ?_) | fail)
    go_loopw [3] (fun i wr => i = .int .i64 0 ∧ Upd0 w wr) (fun i _ => 0)
    case atStart => exact ⟨rfl, Upd.refl _ _⟩
    case round =>
      obtain ⟨rfl, hu⟩ := hrel
      obtain ⟨a0, a1, a2, a3⟩ := set4 (hu.block (fun h => h) hbh.out)
      have hg2 := blk_lt (hu.block (fun h => h) hbh.out)
      go_wp2_with (first | (with_reducible refine wp_serial (by kernel_rfl) (by kernel_rfl) (by repeat with_reducible (first | apply NoBad.then | apply NoBad.inBlock | apply NoBad.jump | exact NoBad.rets)) ?_) | fail)
      all_goals go_returns
      all_goals exact ⟨by rw [hck.out]; rfl, (by repeat first | with_reducible (first | exact Upd.refl _ _ | assumption | apply Upd.drew | apply Upd.alloc) | refine Upd0.tr ?_ (by with_reducible assumption) | refine Upd.setCell ?_ (fun h => absurd h (by first | exact Nat.lt_irrefl _ | (simp only []; omega))) _)⟩
end Go.Proofs.Ytijmbpokglohbaa
