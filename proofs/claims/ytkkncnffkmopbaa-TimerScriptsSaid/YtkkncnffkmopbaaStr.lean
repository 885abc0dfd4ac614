/-
  Strings as lists of bytes, in a walk.
-/
import Derived.Test.YtkkncnffkmopbaaMem2
import Derived.Test.YtkkncnffkmopbaaPlA
namespace Go.Proofs.Ytkkncnffkmopbaa
open Go.RowKit
set_option linter.unusedSimpArgs false
set_option linter.unusedVariables false
theorem ba_get (l : Bs) (i : Nat) (h : i < (⟨l.toArray⟩ : ByteArray).size) : (⟨l.toArray⟩ : ByteArray)[i]'h = l[i]'(by simpa [ByteArray.size] using h) := rfl
theorem wrap64_u8 (u : UInt8) : wrap64 (u.toNat : Int) = u.toNat := by
  have := u.toNat_lt
  simp only [wrap64]; omega
theorem ba_size (l : Bs) : (⟨l.toArray⟩ : ByteArray).size = l.length := rfl
theorem ba_ext (l : Bs) (a b : Nat) : (⟨l.toArray⟩ : ByteArray).extract a b = ⟨((l.take b).drop a).toArray⟩ := by
  apply ByteArray.ext
  rw [ByteArray.data_extract]
  simp [List.drop_take]
theorem ba_app (a b : Bs) : (⟨a.toArray⟩ : ByteArray) ++ ⟨b.toArray⟩ = ⟨(a ++ b).toArray⟩ := by
  apply ByteArray.ext
  simp
theorem ba_mk (s : ByteArray) : s = ⟨s.data.toList.toArray⟩ := by cases s; simp
theorem ba_inj {a b : Bs} : (⟨a.toArray⟩ : ByteArray) = ⟨b.toArray⟩ ↔ a = b := by
  constructor
  · intro h; injection h with h; simpa using h
  · rintro rfl; rfl
theorem app0 {w W w1 : World} {o : Obj} {e : TypeId} {sz n : Nat} {v : Value} {xs : List Value} (hu : Upd0 w W) (hrow : W.ownsRow w.heap.size e sz v n xs) (hg : (W.alloc o).grownBy w1 v.ownBlock) : Upd0 w w1 :=
  (hu.alloc o).grown hg (fun k hk hlt => by have := (hrow.lt k hk).1; omega)
/-- a list's tail from i on, in facts that a walk takes -/
theorem drop_facts {s : Bs} {i : Nat} (h : i < s.length) : ∃ k t, s.drop i = k :: t ∧ s[i] = k ∧ s.drop (i + 1) = t ∧ s.length ≤ i + 1 + t.length ∧ i + 1 + t.length ≤ s.length := by
  refine ⟨s[i], s.drop (i + 1), by simp, rfl, rfl, ?_, ?_⟩ <;> (simp; omega)
attribute [go_sem] ba_get wrap64_u8 ba_size ba_ext ba_app
end Go.Proofs.Ytkkncnffkmopbaa
