/-
  maps.DeleteFunc over the cache's entries.
-/
import Derived.Test.YtijmbpokglohbaaCaC
namespace Go.Proofs.Ytijmbpokglohbaa
open Go.RowKit Go.Maps
set_option linter.unusedSimpArgs false
set_option linter.unusedVariables false
variable {B : Nat}
/-- what is left of the entries while a DeleteFunc is under way -/
def leftM (M : List EM) (now : Int) (left : Lit → Bool) : List EM := M.filter fun m => !(decide (m.e.en ≤ now)) || left (kl m.e.nm m.e.ty)
theorem kl_same (a c : Bs) (b d : Int) : (kl a b).sameKey (kl c d) = true ↔ kl a b = kl c d := by
  simp [kl, Lit.sameKey]
theorem leftM_start {M : List EM} {now : Int} {left : Lit → Bool} (h : ∀ p ∈ M.map EM.ke, left (kl p.nm p.ty) = true) : leftM M now left = M := by
  unfold leftM
  rw [List.filter_eq_self]
  intro m hm
  have := h m.ke (List.mem_map.2 ⟨m, hm, rfl⟩)
  simp only [EM.ke] at this
  rw [this]; simp
theorem leftM_end {M : List EM} {now : Int} {left : Lit → Bool} (h : ∀ l, left l = false) : leftM M now left = M.filter fun m => !(decide (m.e.en ≤ now)) := by
  unfold leftM
  refine List.filter_congr fun m hm => ?_
  rw [h, Bool.or_false]

theorem kl_is {nm : Bs} {ty : Int} {p : KE} (h1 : KOk p.nm p.ty) (h2 : KOk nm ty) : (kl p.nm p.ty).sameKey (kl nm ty) = KE.is nm ty p := by
  rw [Bool.eq_iff_iff, kl_same]
  simp only [KE.is, Bool.and_eq_true, beq_iff_eq, decide_eq_true_eq]
  exact ⟨fun h => kl_inj h1 h2 h, fun ⟨a, b⟩ => by rw [a, b]⟩
theorem left_stay {M : List EM} {now : Int} {left : Lit → Bool} {nm : Bs} {ty : Int} (hk : ∀ m ∈ M, KOk m.e.nm m.e.ty) (h2 : KOk nm ty) (ho : ∀ m ∈ M, KE.is nm ty m.ke = true → decide (m.e.en ≤ now) = false) :
    leftM M now (fun z => left z && !z.sameKey (kl nm ty)) = leftM M now left := by
  unfold leftM
  refine List.filter_congr fun m hm => ?_
  have e := kl_is (p := m.ke) (hk m hm) h2
  simp only [EM.ke] at e
  simp only []
  rw [e]
  cases hb : KE.is nm ty m.ke
  · simp only [EM.ke] at hb; rw [hb]; simp
  · rw [ho m hm hb]; rfl
theorem left_gone {M : List EM} {now : Int} {left : Lit → Bool} {nm : Bs} {ty : Int} (hk : ∀ m ∈ M, KOk m.e.nm m.e.ty) (h2 : KOk nm ty) (ho : ∀ m ∈ M, KE.is nm ty m.ke = true → decide (m.e.en ≤ now) = true) :
    dropQ ((leftM M now left).map EM.ke) nm ty = (leftM M now (fun z => left z && !z.sameKey (kl nm ty))).map EM.ke := by
  unfold leftM dropQ
  rw [List.filter_map, List.filter_filter]
  congr 1
  refine List.filter_congr fun m hm => ?_
  have e := kl_is (p := m.ke) (hk m hm) h2
  simp only [EM.ke] at e
  simp only [Function.comp]
  rw [e]
  cases hb : KE.is nm ty m.ke
  · simp only [EM.ke] at hb; rw [hb]; simp
  · have := ho m hm hb
    simp only [EM.ke] at hb; rw [hb, this]; simp
end Go.Proofs.Ytijmbpokglohbaa
