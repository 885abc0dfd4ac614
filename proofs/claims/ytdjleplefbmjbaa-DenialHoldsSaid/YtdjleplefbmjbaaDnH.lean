/-
  DenialHolds, DenialBound: plain laws.
-/
import Derived.Test.YtdjleplefbmjbaaDnQ
import Derived.Test.YtdjleplefbmjbaaOrd
namespace Go.Proofs.Ytdjleplefbmjbaa
open Go.RowKit
set_option linter.unusedSimpArgs false
set_option linter.unusedVariables false
def hdL (q : Bs) (ty k : Int) (r : Rc) (now : Int) : List Ent := if timeN r = 0 then [] else [newE 1000 q ty k r now]
theorem hd_put (q : Bs) (ty k : Int) (r : Rc) (now : Int) : (∃ c, ¬ c = (0 : Int) ∧ put 5 1000 [] q ty k r now = (c, [])) ∨ (timeB r = true ∧ putOk q ty k now = true ∧ put 5 1000 [] q ty k r now = (0, hdL q ty k r now)) := by
  rw [put_nil 5 1000 (by decide)]
  cases hT : timeB r with
  | false => exact .inl ⟨1, by decide, rfl⟩
  | true =>
    cases hO : putOk q ty k now with
    | false => exact .inl ⟨1, by decide, rfl⟩
    | true =>
      cases hU : undB q r.nm with
      | false => exact .inl ⟨9, by decide, rfl⟩
      | true => exact .inr ⟨rfl, rfl, rfl⟩
theorem hd_code {r : Rc} (h : timeB r = true) : timeC r = 0 := by rw [timeC, if_pos h]
theorem putOk_ty {q : Bs} {ty k now : Int} (h : putOk q ty k now = true) : 1 ≤ ty ∧ 0 ≤ now ∧ now ≤ 1099511627776 := by
  simp only [putOk, Bool.and_eq_true, decide_eq_true_eq] at h
  exact ⟨h.2.1.1, h.2.2.2.1, h.2.2.2.2⟩
theorem hd_get {q : Bs} {ty k : Int} {r : Rc} {now later : Int} (hO : putOk q ty k now = true) (h0 : 0 ≤ now) (h1 : now ≤ later) (h2 : later ≤ 2000000) :
    getOut (hdL q ty k r now) q ty later = if later < now + min (timeN r) 1000 then getV k r.nm r.ty (now + min (timeN r) 1000 - later) r.d true else getV 0 [] 0 0 [] false := by
  have hT : timeOk later = true := by simp [timeOk]; omega
  have hb := timeN_bound r
  rw [getOut, if_pos hT, hdL]
  by_cases hz : timeN r = 0
  · rw [if_pos hz, getF_nil, if_neg (by omega)]; rfl
  · rw [if_neg hz, getF_one]
    have hh : hitE (fold q) ty later (newE 1000 q ty k r now) = decide (later < now + min (timeN r) 1000) := by
      have h3 : (pkOf ty k = 0 ∨ pkOf ty k = ty) := by unfold pkOf; split <;> simp
      have h4 : (decide (pkOf ty k = 0) || decide (pkOf ty k = ty)) = true := by simpa using h3
      show (decide (fold q = fold q) && ((decide (pkOf ty k = 0) || decide (pkOf ty k = ty)) && decide (later < now + min (timeN r) 1000))) = _
      rw [h4, decide_eq_true rfl, Bool.true_and, Bool.true_and]
    rw [hh]
    by_cases hl : later < now + min (timeN r) 1000
    · rw [decide_eq_true hl, if_pos rfl, if_pos hl]
      show getV k r.nm r.ty (wrap64 (now + min (timeN r) 1000 - later)) r.d true = _
      rw [show wrap64 (now + min (timeN r) 1000 - later) = now + min (timeN r) 1000 - later by unfold wrap64; omega]
    · rw [decide_eq_false hl, if_neg hl]; rfl
theorem hd_get2 {q : Bs} {ty k : Int} {r : Rc} {now later : Int} (other : Int) (hO : putOk q ty k now = true) (h0 : 0 ≤ now) (h1 : now ≤ later) (h2 : later ≤ 2000000) :
    ∃ a b c d e, getOut (hdL q ty k r now) (fold q) other later = getV a b c d e (decide (later < now + min (timeN r) 1000) && (decide (k = 2) || decide (other = ty))) := by
  have hT : timeOk later = true := by simp [timeOk]; omega
  have hb := timeN_bound r
  rw [getOut, if_pos hT, hdL]
  by_cases hz : timeN r = 0
  · rw [if_pos hz, getF_nil]
    refine ⟨0, [], 0, 0, [], ?_⟩
    rw [decide_eq_false (by omega : ¬ later < now + min (timeN r) 1000)]; rfl
  · rw [if_neg hz, getF_one]
    have hty := (putOk_ty hO).1
    have hh : hitE (fold (fold q)) other later (newE 1000 q ty k r now) = (decide (later < now + min (timeN r) 1000) && (decide (k = 2) || decide (other = ty))) := by
      rw [fold_fold]
      have h4 : (decide (pkOf ty k = 0) || decide (pkOf ty k = other)) = (decide (k = 2) || decide (other = ty)) := by
        unfold pkOf
        by_cases hk : k = 2
        · rw [if_pos hk, decide_eq_true hk, decide_eq_true rfl, Bool.true_or, Bool.true_or]
        · rw [if_neg hk, decide_eq_false hk, decide_eq_false (by omega : ¬ ty = 0), Bool.false_or, Bool.false_or, decide_eq_decide]
          exact eq_comm
      show (decide (fold q = fold q) && ((decide (pkOf ty k = 0) || decide (pkOf ty k = other)) && decide (later < now + min (timeN r) 1000))) = _
      rw [h4, decide_eq_true rfl, Bool.true_and, Bool.and_comm]
    rw [hh]
    cases hX : (decide (later < now + min (timeN r) 1000) && (decide (k = 2) || decide (other = ty))) with
    | true => exact ⟨_, _, _, _, _, rfl⟩
    | false => exact ⟨_, _, _, _, _, rfl⟩
/-- the last one that has a time is always there -/
theorem bd_put {room : Int} (h1 : 1 ≤ room) (es : List Ent) (q : Bs) (ty k : Int) (r : Rc) (now : Int) (h0 : (put room 1000 es q ty k r now).1 = 0) (ht : 0 < timeN r) :
    ∃ a b c d e, getOut (put room 1000 es q ty k r now).2 q ty now = getV a b c d e true := by
  unfold put at h0 ⊢
  cases hB : (timeB r && putOk q ty k now) with
  | false => simp [hB] at h0
  | true =>
    simp only [hB, if_true] at h0 ⊢
    cases hU : undB q r.nm with
    | false => simp [hU] at h0
    | true =>
      simp only [if_true]
      have hO : putOk q ty k now = true := by simp only [Bool.and_eq_true] at hB; exact hB.2
      obtain ⟨_, n0, n1⟩ := putOk_ty hO
      have hT : timeOk now = true := by simp [timeOk]; omega
      show ∃ a b c d e, getOut (putZ room 1000 es q ty k r now) q ty now = _
      rw [getOut, if_pos hT, putZ, if_neg (by omega)]
      obtain ⟨l', hl⟩ := lastN_app h1 (es.filter fun x => !delP (fold q) (pkOf ty k) x) (newE 1000 q ty k r now)
      rw [hl, getF_last (new_hit (by decide) ht)]
      exact ⟨_, _, _, _, _, rfl⟩
theorem getOut_any (es : List Ent) (q : Bs) (ty now : Int) : ∃ a b c d e f, getOut es q ty now = getV a b c d e f := by
  unfold getOut
  split
  · cases getF es (fold q) ty now <;> exact ⟨_, _, _, _, _, _, rfl⟩
  · exact ⟨_, _, _, _, _, _, rfl⟩
end Go.Proofs.Ytdjleplefbmjbaa
