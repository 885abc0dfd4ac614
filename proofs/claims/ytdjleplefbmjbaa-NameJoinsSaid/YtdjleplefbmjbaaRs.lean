/-
  A slice of texts that came in.
-/
import Derived.Test.YtdjleplefbmjbaaRd
import Derived.Test.YtdjleplefbmjbaaFlB
namespace Go.Proofs.Ytdjleplefbmjbaa
open Go.ChangeShapes Go.WideShapes Go.ChangeAt Go.RowKit
set_option linter.unusedSimpArgs false
set_option linter.unusedVariables false
theorem cell_lt {w : World} {a : Addr} {v : Value} (h : w.cell? a = some v) : a.block < w.heap.size ∧ a.spot = none := by
  unfold World.cell? at h
  split at h
  · rename_i c e f hb
    refine ⟨blk_lt hb, ?_⟩
    split at h
    · cases h
    · rename_i hs; simpa using hs
  · cases h
theorem sr_of {w : World} {v : Value} (hv : ∃ a len cap, v = .slice a len cap) (h : Reads w (.slice .str) v.cells.toList) : ∃ ao cap, ∃ L : List Bs, v = .slice ao L.length cap ∧ SR w ao L ∧ L.length ≤ maxLen := by
  obtain ⟨a0, l0, c0, rfl⟩ := hv
  simp only [Reads] at h
  rcases h with h | ⟨a, len, cap, h, hl, hm, hel⟩
  · refine ⟨none, 0, [], ?_, .inl rfl, by simp [maxLen]⟩
    simpa [Value.cells] using h
  · have hv : Value.slice a0 l0 c0 = .slice (some a) len cap := by simpa [Value.cells] using h
    obtain ⟨ss, hs1, hs2⟩ := reads_list (α := { s : ByteArray // s.size ≤ maxLen }) (e := .str) (f := fun s => [Value.string s.1]) (fun cs hc => by
      obtain ⟨s, rfl, hs⟩ := hc
      exact ⟨⟨s, hs⟩, rfl⟩) hel
    refine ⟨some a, cap, ss.map (fun s => s.1.data.toList), by rw [hv, List.length_map, hs1], ?_, by rw [List.length_map]; omega⟩
    cases ss with
    | nil => exact .inl rfl
    | cons x0 ss =>
      have h0 := hs2 0 x0 rfl 0 _ rfl
      obtain ⟨g1, g2⟩ := cell_lt h0
      obtain ⟨g, o, sp⟩ := a
      simp only [Addr.add] at g1 g2
      subst g2
      refine .inr ⟨g, o, rfl, g1, fun i x hx => ?_⟩
      rw [List.getElem?_map] at hx
      obtain ⟨y, hy, rfl⟩ := Option.map_eq_some_iff.1 hx
      have := hs2 i y hy 0 _ rfl
      rw [show (⟨y.1.data.toList.toArray⟩ : ByteArray) = y.1 from (ba_mk y.1).symm]
      have e : (⟨g, o, none⟩ : Addr).add (i * Ty.cells .str + 0) = ⟨g, o + i, none⟩ := by simp [Ty.cells, Addr.add]
      first
        | (rw [e] at this; exact this)
        | (have e2 : (⟨g, o, none⟩ : Addr).add i = ⟨g, o + i, none⟩ := by cases i <;> simp [Addr.add]
           simp only [Ty.cells, Nat.mul_one, Nat.add_zero] at this
           first | (rw [e2] at this; exact this) | (simpa [e2] using this))
end Go.Proofs.Ytdjleplefbmjbaa
