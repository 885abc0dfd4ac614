/-
  What CacheBound says, plainly: every entry was put by an earlier call.
-/
import Derived.Test.YtijmbpokglohbaaCaAp
import Derived.Test.YtijmbpokglohbaaCaR
namespace Go.Proofs.Ytijmbpokglohbaa
open Go.RowKit Go.Maps
set_option linter.unusedSimpArgs false
set_option linter.unusedVariables false
/-- this call put it -/
def bdB (nm : Bs) (ty : Int) (dt : List Bs) (rk en : Int) (p : OpE) : Bool :=
  decide (p.dO = 0) && (decide (p.rk = rk) && ((p.s.nm == nm) && (decide (p.s.ty = ty) && ((p.s.dt == dt) && decide (wrap64 (p.now + min p.s.tl 1000) = en)))))
structure BdI (room : Int) (xs : List OpE) (c : CS) (k : Nat) : Prop where
  ok : COk c
  room : c.room = room
  most : c.most = 1000
  n : c.N ≤ k
  e : ∀ e ∈ c.L, ∃ j p, j < k ∧ xs[j]? = some p ∧ bdB e.nm e.ty e.dt e.rk e.en p = true ∧ e.en ≤ p.now + e.tl
  mono : ∀ j p q, j < k → xs[j]? = some p → xs[k - 1]? = some q → p.now ≤ q.now
theorem bd_start (room : Int) (h1 : 1 ≤ room) (h2 : room ≤ 200) (xs : List OpE) : BdI room xs ⟨room, 1000, 0, []⟩ 0 :=
  ⟨empty_ok room 1000 h1 h2 (by decide) (by decide), rfl, rfl, Int.le_refl _, fun e he => (by cases he), fun j p q hj => absurd hj (by omega)⟩
theorem bd_mono {xs : List OpE} {k : Nat} {x : OpE} (hm : ∀ j p q, j < k → xs[j]? = some p → xs[k - 1]? = some q → p.now ≤ q.now) (hx : xs[k]? = some x) (hle : ∀ q, 0 < k → xs[k - 1]? = some q → q.now ≤ x.now) : ∀ j p q, j < k + 1 → xs[j]? = some p → xs[k + 1 - 1]? = some q → p.now ≤ q.now := by
  intro j p q hj hp hq
  rw [Nat.add_sub_cancel, hx] at hq
  cases hq
  by_cases hjk : j = k
  · subst hjk; rw [hx] at hp; cases hp; exact Int.le_refl _
  · have h0 : 0 < k := by omega
    obtain ⟨q, hq⟩ : ∃ q, xs[k - 1]? = some q := ⟨xs[k - 1]'(by have := (List.getElem?_eq_some_iff.1 hx).1; omega), List.getElem?_eq_getElem _⟩
    exact Int.le_trans (hm j p q (by omega) hp hq) (hle q h0 hq)
theorem bd_keep {room : Int} {xs : List OpE} {c c' : CS} {k : Nat} (h : BdI room xs c k) {x : OpE} (hx : xs[k]? = some x) (hle : ∀ q, 0 < k → xs[k - 1]? = some q → q.now ≤ x.now) (hok : COk c') (hr : c'.room = c.room) (hm : c'.most = c.most) (hn : c'.N ≤ c.N + 1)
    (he : ∀ e ∈ c'.L, (∃ f ∈ c.L, e.nm = f.nm ∧ e.ty = f.ty ∧ e.tl = f.tl ∧ e.dt = f.dt ∧ e.rk = f.rk ∧ e.en = f.en) ∨ (bdB e.nm e.ty e.dt e.rk e.en x = true ∧ e.en ≤ x.now + e.tl)) : BdI room xs c' (k + 1) := by
  refine ⟨hok, hr.trans h.room, hm.trans h.most, ?_, fun e hce => ?_, bd_mono h.mono hx hle⟩
  · have := h.n; omega
  · rcases he e hce with ⟨f, hf, e1, e2, e3, e4, e5, e6⟩ | hb
    · obtain ⟨j, p, hj, hp, hb, hl⟩ := h.e f hf
      rw [e1, e2, e3, e4, e5, e6]
      exact ⟨j, p, by omega, hp, hb, hl⟩
    · exact ⟨k, x, by omega, hx, hb⟩
theorem putS_room (c : CS) (s : St) (rk now : Int) : (putS c s rk now).room = c.room ∧ (putS c s rk now).most = c.most := by
  unfold putS putZ
  split
  · split
    · exact ⟨rfl, rfl⟩
    · split <;> exact ⟨rfl, rfl⟩
  · exact ⟨rfl, rfl⟩
theorem bd_put {room : Int} {xs : List OpE} {c : CS} {k : Nat} (h : BdI room xs c k) {x : OpE} (hx : xs[k]? = some x) (hle : ∀ q, 0 < k → xs[k - 1]? = some q → q.now ≤ x.now) (hf : fewS x.s = true) (hd : x.dO = 0) (hnow : x.now ≤ 1000000) : BdI room xs (putS c x.s x.rk x.now) (k + 1) := by
  refine bd_keep h hx hle (putS_ok h.ok hf) (putS_room _ _ _ _).1 (putS_room _ _ _ _).2 (putS_N _ _ _ _) fun e he => ?_
  unfold putS at he
  split at he
  · rename_i hb
    split at he
    · exact .inl ⟨e, he, rfl, rfl, rfl, rfl, rfl, rfl⟩
    · unfold putZ at he
      split at he
      · exact .inl ⟨e, (dropK_sub _ _ _).subset he, rfl, rfl, rfl, rfl, rfl, rfl⟩
      · rcases List.mem_append.1 he with he | he
        · exact .inl ⟨e, (dropK_sub _ _ _).subset ((roomed_sub _ _ _).subset he), rfl, rfl, rfl, rfl, rfl, rfl⟩
        · right
          rw [List.mem_singleton.1 he]
          have hmn := may_num (putB_num hb).1
          have h0 := (putB_num hb).2.2
          simp only [Bool.and_eq_true, decide_eq_true_eq] at h0
          have hw : wrap64 (x.now + min x.s.tl 1000) = x.now + min x.s.tl c.most := by rw [h.most]; unfold wrap64; omega
          simp only [newC, bdB, hd, hw, decide_true, Bool.true_and, beq_self_eq_true]
          exact ⟨trivial, by rw [h.most]; omega⟩
  · exact .inl ⟨e, he, rfl, rfl, rfl, rfl, rfl, rfl⟩
theorem bd_get {room : Int} {xs : List OpE} {c : CS} {k : Nat} (h : BdI room xs c k) {x : OpE} (hx : xs[k]? = some x) (hle : ∀ q, 0 < k → xs[k - 1]? = some q → q.now ≤ x.now) (nm : Bs) (ty : Int) : BdI room xs (bumpC c nm ty) (k + 1) := by
  refine bd_keep h hx hle (bumpC_ok h.ok nm ty) rfl rfl (Int.le_refl _) fun e he => .inl ?_
  obtain ⟨f, hf, rfl⟩ := List.mem_map.1 he
  exact ⟨f, hf, by unfold bumpE; split <;> exact ⟨rfl, rfl, rfl, rfl, rfl, rfl⟩⟩
theorem bd_same {room : Int} {xs : List OpE} {c : CS} {k : Nat} (h : BdI room xs c k) {x : OpE} (hx : xs[k]? = some x) (hle : ∀ q, 0 < k → xs[k - 1]? = some q → q.now ≤ x.now) : BdI room xs c (k + 1) :=
  bd_keep h hx hle h.ok rfl rfl (by omega) fun e he => .inl ⟨e, he, rfl, rfl, rfl, rfl, rfl, rfl⟩
/-- what is told was put, and may be -/
theorem bd_hit {room : Int} {xs : List OpE} {c : CS} {k : Nat} (h : BdI room xs c k) {x : OpE} (hx : xs[k]? = some x) (hle : ∀ q, 0 < k → xs[k - 1]? = some q → q.now ≤ x.now) {nm : Bs} {ty : Int} {e : CE} (hh : hitB c nm ty x.now = some e) :
    (xs.take k).any (bdB e.nm e.ty e.dt e.rk e.en) = true ∧ mayS ⟨e.nm, e.ty, e.en - x.now, e.dt⟩ = true ∧ 1 ≤ e.en - x.now ∧ e.en - x.now ≤ 2147483647 ∧ e.nm.length ≤ 300 ∧ e.dt.length ≤ 12 ∧ (∀ d ∈ e.dt, d.length ≤ 300) ∧ 0 ≤ e.en ∧ e.en ≤ 1101659111423 := by
  have hL : e ∈ c.L ∧ x.now < e.en := by
    unfold hitB at hh
    split at hh
    · cases hf : c.L.find? (isK (fold nm) ty) with
      | none => rw [hf] at hh; cases hh
      | some f =>
        rw [hf, Option.filter_some] at hh
        split at hh
        · rename_i h1
          cases hh
          exact ⟨List.mem_of_find?_eq_some hf, by simpa using h1⟩
        · cases hh
    · cases hh
  obtain ⟨he, hlt⟩ := hL
  have hE := h.ok.ent e he
  obtain ⟨j, p, hj, hp, hb, hl⟩ := h.e e he
  have hm := may_num hE.may
  simp only [CE.st] at hm
  have hq : p.now ≤ x.now := by
    obtain ⟨q, hq⟩ : ∃ q, xs[k - 1]? = some q := ⟨xs[k - 1]'(by have := (List.getElem?_eq_some_iff.1 hx).1; omega), List.getElem?_eq_getElem _⟩
    exact Int.le_trans (h.mono j p q hj hp hq) (hle q (by omega) hq)
  refine ⟨?_, may_ttl hE.may (by omega) (by omega), by omega, by omega, hE.nl, hE.dl, hE.dd, hE.x⟩
  rw [List.any_eq_true]
  exact ⟨p, List.mem_of_getElem? (by rw [List.getElem?_take_of_lt hj]; exact hp), hb⟩
end Go.Proofs.Ytijmbpokglohbaa
