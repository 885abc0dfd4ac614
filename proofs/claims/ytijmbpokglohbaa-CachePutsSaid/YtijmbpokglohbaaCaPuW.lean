/-
  The walk of CachePuts: what is put is told, as long as its time is not over.
-/
import Derived.Test.YtijmbpokglohbaaCaPuA
import Derived.Test.YtijmbpokglohbaaCaPuB
import Derived.Test.YtijmbpokglohbaaCaPuC
namespace Go.Proofs.Ytijmbpokglohbaa
open Go.RowKit Go.Maps
set_option linter.unusedSimpArgs false
set_option linter.unusedVariables false
theorem hit_empty (most N : Int) (nm : Bs) (ty now : Int) : hitB ⟨3, most, N, []⟩ nm ty now = none := by
  unfold hitB; split <;> rfl
theorem puts_one {nm : Bs} {ty tl : Int} {dt : List Bs} {rk most now : Int} (hb : putB ⟨nm, ty, tl, dt⟩ rk now = true) : putI ⟨3, most, 0, []⟩ ⟨nm, ty, tl, dt⟩ rk now = 0 ∧ putS ⟨3, most, 0, []⟩ ⟨nm, ty, tl, dt⟩ rk now = (if tl = 0 then ⟨3, most, 0, []⟩ else ⟨3, most, 1, [⟨nm, ty, tl, dt, rk, now + min tl most, 1⟩]⟩) := by
  have hd : denyB [] ⟨nm, ty, tl, dt⟩ rk now = false := rfl
  refine ⟨by rw [putI, hb, if_pos rfl, hd, if_neg (by decide)], ?_⟩
  rw [putS, hb, if_pos rfl, hd, if_neg (by decide), putZ]
  split <;> rfl
theorem cachePuts_walk (s : St) (ao : Option Addr) (cap : Nat) (rk most now later : Int) (w : World) (hS : SR w ao s.dt) (hty : (Lit.int .i64 s.ty).wf = true) : Calls Try.prog 11 #[.agg #[.string ⟨s.nm.toArray⟩, .int .i64 s.ty, .int .i64 s.tl, .slice ao s.dt.length cap, .int .i64 rk, .int .i64 most, .int .i64 now, .int .i64 later]] w (Rets fun r w' => r = .bool true ∧ Upd0 w w') := by
  obtain ⟨nm, ty, tl, dt⟩ := s
  simp only [] at hS hty ⊢
  cases hf : fewS ⟨nm, ty, tl, dt⟩ with
  | false => exact puts_1 nm ty tl dt ao cap rk most now later w hS hf
  | true =>
    by_cases n1 : now < 0
    · exact puts_2 nm ty tl dt ao cap rk most now later w hS hf n1
    by_cases n2 : 1000000 < now
    · exact puts_3 nm ty tl dt ao cap rk most now later w hS hf n1 n2
    by_cases n3 : later < 0
    · exact puts_4 nm ty tl dt ao cap rk most now later w hS hf n1 n2 n3
    by_cases n4 : 10000000 < later
    · exact puts_5 nm ty tl dt ao cap rk most now later w hS hf n1 n2 n3 n4
    by_cases hm : 1 ≤ most ∧ most ≤ 2147483647
    case neg => exact puts_6 nm ty tl dt ao cap rk most now later w hS hf n1 n2 n3 n4 (fun h => hm h.2.2)
    obtain ⟨hm1, hm2⟩ := hm
    cases hb : putB ⟨nm, ty, tl, dt⟩ rk now with
    | false => exact puts_7 nm ty tl dt ao cap rk most now later w hS hf n1 n2 n3 n4 hm1 hm2 hty _ ⟨by rw [putI, hb, if_neg (by decide)], by rw [putS, hb, if_neg (by decide)]⟩ (hit_empty _ _ _ _ _)
    | true =>
      have h1 := puts_one (most := most) hb
      have hmn := may_num (putB_num hb).1
      simp only [] at hmn
      by_cases ht : tl = 0
      · rw [if_pos ht] at h1
        exact puts_8 nm ty tl dt ao cap rk most now later w hS hf n1 n2 n3 n4 hm1 hm2 hty _ (by omega) h1 (hit_empty _ _ _ _ _)
      · rw [if_neg ht] at h1
        have hk : isK (fold nm) ty ⟨nm, ty, tl, dt, rk, now + min tl most, 1⟩ = true := isK_iff.2 ⟨hmn.1.symm, rfl⟩
        have hh : hitB ⟨3, most, 1, [⟨nm, ty, tl, dt, rk, now + min tl most, 1⟩]⟩ nm ty later = if later < now + min tl most then some ⟨nm, ty, tl, dt, rk, now + min tl most, 1⟩ else none := by
          rw [hitB, if_pos (by omega)]
          simp only [List.find?_cons_of_pos hk, Option.filter_some, decide_eq_true_eq]
        by_cases hl : later < now + min tl most
        · rw [if_pos hl] at hh
          exact puts_10 nm ty tl dt ao cap rk most now later w hS hf n1 n2 n3 n4 hm1 hm2 hty _ (by omega) (by omega) hl h1 hh
        · rw [if_neg hl] at hh
          exact puts_9 nm ty tl dt ao cap rk most now later w hS hf n1 n2 n3 n4 hm1 hm2 hty _ (by omega) (by omega) hl h1 hh
end Go.Proofs.Ytijmbpokglohbaa
