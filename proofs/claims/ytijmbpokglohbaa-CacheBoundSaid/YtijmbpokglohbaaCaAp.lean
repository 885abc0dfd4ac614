/-
  What CacheApart says, plainly: as long as there is room, what is put of one name and type changes nothing of another one.
-/
import Derived.Test.YtijmbpokglohbaaCaRkW
namespace Go.Proofs.Ytijmbpokglohbaa
open Go.RowKit Go.Maps
set_option linter.unusedSimpArgs false
set_option linter.unusedVariables false
theorem Ca.low {B B' : Nat} {w : World} {t : Nat} {c : CS} (h : Ca B' w t c) (k : B ≤ B') : Ca B w t c := by
  obtain ⟨bm, M, h⟩ := h
  exact ⟨bm, M, h.blk, h.own, h.abs, h.ent, h.dg, Nat.le_trans k h.lo.1, Nat.le_trans k h.lo.2.1, fun m hm => Nat.le_trans k (h.lo.2.2 m hm)⟩
/-- the set's entry stands -/
structure ApI (s : St) (c : CS) (k : Nat) : Prop where
  ok : COk c
  room : c.room = 200
  n : c.N ≤ 2 * k + 1
  len : c.L.length ≤ k + 1
  e : ∃ u, c.L.find? (isK s.nm s.ty) = some ⟨s.nm, s.ty, s.tl, s.dt, 3, s.tl, u⟩
theorem find_dropK_other {L : List CE} {nm nm' : Bs} {ty ty' : Int} (h : ¬ (nm' = nm ∧ ty' = ty)) : (dropK L nm' ty').find? (isK nm ty) = L.find? (isK nm ty) := by
  unfold dropK
  rw [List.find?_filter]
  congr 1
  funext e
  cases hb : isK nm ty e
  · simp
  · rw [isK_iff] at hb
    have : isK nm' ty' e = false := by
      cases hb2 : isK nm' ty' e
      · rfl
      · rw [isK_iff] at hb2
        exact absurd ⟨hb2.1.symm.trans hb.1, hb2.2.symm.trans hb.2⟩ h
    simp [this]
theorem ap_start {s : St} (hf : fewS s = true) (hb : putB s 3 0 = true) (ht : 1 ≤ s.tl) : putI ⟨200, 2147483647, 0, []⟩ s 3 0 = 0 ∧ ApI s (putS ⟨200, 2147483647, 0, []⟩ s 3 0) 0 := by
  have hd : denyB [] s 3 0 = false := rfl
  have hmn := may_num (putB_num hb).1
  have hp : putS ⟨200, 2147483647, 0, []⟩ s 3 0 = ⟨200, 2147483647, 1, [⟨s.nm, s.ty, s.tl, s.dt, 3, s.tl, 1⟩]⟩ := by
    rw [putS, hb, if_pos rfl, hd, if_neg (by decide), putZ, if_neg (by omega)]
    show (⟨200, 2147483647, 0 + 1, roomed 200 [] 0 ++ [newC s 3 0 2147483647 0]⟩ : CS) = _
    rw [show roomed 200 [] 0 = [] from rfl]
    simp only [newC, List.nil_append]
    rw [show (0 : Int) + min s.tl 2147483647 = s.tl by omega]
    rfl
  refine ⟨by rw [putI, hb, if_pos rfl, hd, if_neg (by decide)], ?_⟩
  have hok := putS_ok (empty_ok 200 2147483647 (by decide) (by decide) (by decide) (by decide)) hf (rk := 3) (now := 0)
  rw [hp] at hok ⊢
  refine ⟨hok, rfl, by simp, by simp, 1, ?_⟩
  exact List.find?_cons_of_pos (isK_iff.2 ⟨rfl, rfl⟩)
theorem ap_no {s : St} {rk now : Int} (c : CS) (hb : putB s rk now = false) : putI c s rk now = 1 ∧ putS c s rk now = c :=
  ⟨by rw [putI, hb, if_neg (by decide)], by rw [putS, hb, if_neg (by decide)]⟩
theorem ap_put {s : St} {c : CS} {k : Nat} (h : ApI s c k) (hk : k ≤ 100) {o : St} (hf : fewS o = true) (hne : ¬ (o.nm = s.nm ∧ o.ty = s.ty)) (rk now : Int) : COk (putS c o rk now) ∧ (putS c o rk now).room = 200 ∧ (putS c o rk now).N ≤ 2 * k + 2 ∧ (putS c o rk now).L.length ≤ k + 2 ∧ ∃ u, (putS c o rk now).L.find? (isK s.nm s.ty) = some ⟨s.nm, s.ty, s.tl, s.dt, 3, s.tl, u⟩ := by
  obtain ⟨u, hu⟩ := h.e
  have hN := putS_N c o rk now
  have hn := h.n
  refine ⟨putS_ok h.ok hf, ?_, by omega, ?_⟩
  · have := h.room
    unfold putS putZ
    split
    · split
      · exact this
      · split <;> exact this
    · exact this
  · unfold putS
    split
    · split
      · exact ⟨by have := h.len; omega, u, hu⟩
      · have hl : (dropK c.L o.nm o.ty).length ≤ c.L.length := (dropK_sub c.L o.nm o.ty).length_le
        have hlen := h.len
        have hfd : (dropK c.L o.nm o.ty).find? (isK s.nm s.ty) = some ⟨s.nm, s.ty, s.tl, s.dt, 3, s.tl, u⟩ := by rw [find_dropK_other hne, hu]
        unfold putZ
        split
        · exact ⟨by simp only []; omega, u, hfd⟩
        · have hr : roomed c.room (dropK c.L o.nm o.ty) now = dropK c.L o.nm o.ty := by
            rw [roomed, if_pos (by rw [h.room]; omega)]
          rw [hr]
          refine ⟨by simp only [List.length_append, List.length_cons, List.length_nil]; omega, u, ?_⟩
          simp only []
          rw [List.find?_append, hfd]; rfl
    · exact ⟨by have := h.len; omega, u, hu⟩
theorem find_bump (L : List CE) (nm : Bs) (ty N : Int) : (L.map (bumpE nm ty N)).find? (isK nm ty) = (L.find? (isK nm ty)).map (bumpE nm ty N) := by
  rw [List.find?_map]
  congr 2
  funext e
  simp only [Function.comp, isK, (bumpE_nm nm ty N e).1, (bumpE_nm nm ty N e).2]
theorem ap_get {s : St} {c : CS} {k : Nat} (hfd : fold s.nm = s.nm) (ht : 1 ≤ s.tl) (hok : COk c) (hr : c.room = 200) (hn : c.N ≤ 2 * k + 2) (hl : c.L.length ≤ k + 2) {u : Int} (hu : c.L.find? (isK s.nm s.ty) = some ⟨s.nm, s.ty, s.tl, s.dt, 3, s.tl, u⟩) :
    hitB c s.nm s.ty 0 = some ⟨s.nm, s.ty, s.tl, s.dt, 3, s.tl, u⟩ ∧ ApI s (bumpC c s.nm s.ty) (k + 1) := by
  refine ⟨?_, bumpC_ok hok _ _, hr, ?_, by simpa [bumpC] using hl, c.N + 1, ?_⟩
  · rw [hitB, if_pos (by decide), hfd, hu, Option.filter_some, if_pos (by simp; omega)]
  · show c.N + 1 ≤ _
    omega
  · show (c.L.map (bumpE s.nm s.ty c.N)).find? _ = _
    rw [find_bump, hu]
    have hk : isK s.nm s.ty ⟨s.nm, s.ty, s.tl, s.dt, 3, s.tl, u⟩ = true := isK_iff.2 ⟨rfl, rfl⟩
    simp only [Option.map_some, bumpE]
    rw [if_pos hk]
end Go.Proofs.Ytijmbpokglohbaa
