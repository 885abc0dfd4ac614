/-
  Denials: plain laws of Put and Get.
-/
import Derived.Test.YtdjleplefbmjbaaDnF
namespace Go.Proofs.Ytdjleplefbmjbaa
open Go.RowKit
set_option linter.unusedSimpArgs false
set_option linter.unusedVariables false
theorem lastN_app {room : Int} (h : 1 ≤ room) (l : List Ent) (x : Ent) : ∃ l', lastN room (l ++ [x]) = l' ++ [x] := by
  refine ⟨l.drop (l.length + 1 - room.toNat), ?_⟩
  have e : l.length + 1 - room.toNat - l.length = 0 := by omega
  rw [lastN, List.length_append, List.length_singleton, List.drop_append, e, List.drop_zero]
theorem lastN_len {room : Int} (h : 1 ≤ room) (l : List Ent) : ((lastN room l).length : Int) ≤ room := by
  rw [lastN, List.length_drop]; omega
theorem lastN_one {room : Int} (h : 1 ≤ room) (x : Ent) : lastN room [x] = [x] := by
  have e : 1 - room.toNat = 0 := by omega
  rw [lastN, List.length_singleton, e, List.drop_zero]
theorem put_nil (room most : Int) (h : 1 ≤ room) (q : Bs) (ty k : Int) (r : Rc) (now : Int) : put room most [] q ty k r now = if timeB r && putOk q ty k now then (if undB q r.nm then (0, if timeN r = 0 then [] else [newE most q ty k r now]) else (9, [])) else (1, []) := by
  rw [put, putZ, List.filter_nil, List.nil_append, lastN_one h]
/-- the one put last is asked first -/
theorem getF_last {l : List Ent} {x : Ent} {F : Bs} {ty now : Int} (h : hitE F ty now x = true) : getF (l ++ [x]) F ty now = some (l.length, x) := by
  have hx : (l ++ [x])[l.length]? = some x := by rw [List.getElem?_append_right (Nat.le_refl _), Nat.sub_self]; rfl
  rw [getF, List.length_append, List.length_singleton, backN_succ _ hx, List.find?_cons_of_pos (by exact h)]
theorem getF_nil (F : Bs) (ty now : Int) : getF [] F ty now = none := rfl
theorem getF_one (x : Ent) (F : Bs) (ty now : Int) : getF [x] F ty now = if hitE F ty now x then some (0, x) else none := by
  cases h : hitE F ty now x with
  | true => exact getF_last (l := []) h
  | false =>
    have hx : ([x] : List Ent)[0]? = some x := rfl
    rw [getF, List.length_singleton, backN_succ _ hx, List.find?_cons_of_neg (by simp [h])]
    rfl
theorem new_hit {most : Int} {q : Bs} {ty k : Int} {r : Rc} {now : Int} (hm : 1 ≤ most) (ht : 0 < timeN r) : hitE (fold q) ty now (newE most q ty k r now) = true := by
  have h1 : (pkOf ty k = 0 ∨ pkOf ty k = ty) := by unfold pkOf; split <;> simp
  have h2 : now < now + min (timeN r) most := by omega
  have h3 : (decide (pkOf ty k = 0) || decide (pkOf ty k = ty)) = true := by simpa using h1
  show (decide (fold q = fold q) && ((decide (pkOf ty k = 0) || decide (pkOf ty k = ty)) && decide (now < now + min (timeN r) most))) = true
  rw [h3, decide_eq_true h2, decide_eq_true rfl]; rfl
end Go.Proofs.Ytdjleplefbmjbaa
