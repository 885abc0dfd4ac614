/-
  What may be: facts of records and questions; a record's data is written: the parts.
-/
import Derived.Test.YtgdejgfmhndbhaaWrO
namespace Go.Proofs.Ytgdejgfmhndbhaa
open Go.RowKit Go.Maps
set_option linter.unusedSimpArgs false
set_option linter.unusedVariables false
variable {B : Nat}
structure Rc.Good (r : Rc) : Prop where
  nm : cutB r.nm = true
  ty : 1 ≤ r.ty ∧ r.ty ≤ 65535
  tl : 0 ≤ r.tl ∧ r.tl ≤ 2147483647
  len : r.d.length ≤ 4000
  fit : fitB r.ty r.d = true
theorem Rc.good {r : Rc} (h : r.ok = true) : r.Good := by
  simp only [Rc.ok, decide_eq_true_eq, recC] at h
  split at h
  · rename_i hh
    obtain ⟨h1, h2, h3⟩ := hh
    have hk := kind_yes h1
    have ht := ttl_yes h2
    simp only [dataB, Bool.and_eq_true, decide_eq_true_eq] at h3
    refine ⟨?_, ⟨hk.1, hk.2.1⟩, ht, h3.1, h3.2⟩
    unfold checkC at h
    cases hc : cutB r.nm with
    | true => rfl
    | false => rw [hc] at h; simp at h
  · cases h
theorem soa_parts {d : Bs} (h : psB d = true) : cutB (psV d).main = true ∧ cutB (psV d).mail = true ∧ 20 ≤ d.length ∧ (psV d).main.length + (psV d).mail.length + 22 ≤ d.length := by
  have hv : psV d = psS d := by rw [psV, if_pos h]
  simp only [psB, Bool.and_eq_true, decide_eq_true_eq, So.ok] at h
  obtain ⟨⟨⟨h1, h2⟩, h3⟩, ⟨⟨⟨h4, h5⟩, _⟩, _⟩, _⟩ := h
  obtain ⟨i, i1, i2, i3, i4⟩ := fir_yes h1
  obtain ⟨j, j1, j2, j3, j4⟩ := fir_yes h2
  have e1 : (psV d).main = firN d := by rw [hv]; rfl
  have e2 : (psV d).mail = firN (firR d) := by rw [hv]; rfl
  have l1 : (firR d).length = d.length - (i + 1) := by rw [i3]; simp
  have l2 : (firR (firR d)).length = (firR d).length - (j + 1) := by rw [j3]; simp
  have l3 : (firN d).length = i := by rw [i4]; simp; omega
  have l4 : (firN (firR d)).length = j := by rw [j4]; simp; omega
  refine ⟨by rw [hv]; exact h4, by rw [hv]; exact h5, by omega, by rw [e1, e2, l3, l4]; omega⟩
theorem host_parts {k : Int} {d : Bs} (h : phC k d = 0) : cutB (phN k d) = true ∧ (phN k d).length + 1 ≤ d.length := by
  have e : phN k d = (d.drop (aheadZ k).toNat).dropLast := by rw [phN, if_pos h]
  unfold phC at h
  split at h
  · cases h
  · split at h
    · cases h
    · split at h
      · rename_i h1 h2 h3
        simp only [hostOk, Bool.and_eq_true] at h3
        rw [e]
        refine ⟨h3.2, ?_⟩
        have h4 : d.drop (aheadZ k).toNat ≠ [] := by
          intro hn
          rw [hn] at h3
          exact absurd h3.1 (by decide)
        have h5 := List.length_pos_iff.2 h4
        rw [List.length_dropLast]
        rw [List.length_drop] at h5 ⊢
        omega
      · cases h
theorem body_soa {r : Rc} (w : Wr) (h : r.ty = 6) : bodyW r w = (nameW (psV r.d).mail (nameW (psV r.d).main w)).add (r.d.drop (r.d.length - 20)) := by rw [bodyW, if_pos h]
theorem body_host {r : Rc} (w : Wr) (h : ¬ r.ty = 6) (h2 : phC r.ty r.d = 0) (h3 : ¬ r.ty = 33) : bodyW r w = nameW (phN r.ty r.d) (w.add (r.d.take (r.d.length - (phN r.ty r.d).length - 1))) := by rw [bodyW, if_neg h, if_pos ⟨h2, h3⟩]
theorem body_txt {r : Rc} (w : Wr) (h : ¬ r.ty = 6) (h2 : ¬ (phC r.ty r.d = 0 ∧ r.ty ≠ 33)) : bodyW r w = w.add r.d := by rw [bodyW, if_neg h, if_neg h2]
theorem nameW_len {n : Bs} (s : Wr) (hc : cutB n = true) : (nameW n s).b.length ≤ s.b.length + n.length + 1 ∧ s.b.length ≤ (nameW n s).b.length := by
  obtain ⟨_, hlab⟩ := cut_lab hc
  obtain ⟨hjn, hlb⟩ := lab_jn n _ hlab
  have := nameL_len (cutL n) s hlb
  rw [hjn] at this
  exact this
theorem body_len {r : Rc} (h : r.Good) (s : Wr) : (bodyW r s).b.length ≤ s.b.length + r.d.length + 2 ∧ s.b.length ≤ (bodyW r s).b.length := by
  by_cases h6 : r.ty = 6
  · have hp : psB r.d = true := by
      have := h.fit
      rw [fitB, h6] at this
      simpa using this
    obtain ⟨p1, p2, p3, p4⟩ := soa_parts hp
    rw [body_soa s h6]
    have n1 := nameW_len s p1
    have n2 := nameW_len (nameW (psV r.d).main s) p2
    simp [Wr.add]
    omega
  · by_cases h2 : phC r.ty r.d = 0 ∧ r.ty ≠ 33
    · rw [body_host s h6 h2.1 h2.2]
      obtain ⟨q1, q2⟩ := host_parts h2.1
      have n1 := nameW_len (s.add (r.d.take (r.d.length - (phN r.ty r.d).length - 1))) q1
      simp [Wr.add] at n1 ⊢
      omega
    · rw [body_txt s h6 h2]
      simp [Wr.add]
theorem WrI.patch {w : World} {t g len cap mb n : Nat} {s : Wr} {D : DataW Unit} (h : WrI B w t s (.slice (some ⟨g, 0, none⟩) len cap) mb n D) (i : Nat) (a b : UInt8) :
    WrI B ((w.setCell ⟨g, i, none⟩ (.int .u8 a.toNat)).setCell ⟨g, i + 1, none⟩ (.int .u8 b.toNat)) t ⟨(s.b.set i a).set (i + 1) b, s.pl⟩ (.slice (some ⟨g, 0, none⟩) len cap) mb n D ∧ UpdW B w ((w.setCell ⟨g, i, none⟩ (.int .u8 a.toNat)).setCell ⟨g, i + 1, none⟩ (.int .u8 b.toNat)) := by
  obtain ⟨n1, n2, n3⟩ := h.ne
  obtain ⟨k1, k2, k3⟩ := h.kinds
  have hu : Upd (fun k => k = g) w ((w.setCell ⟨g, i, none⟩ (.int .u8 a.toNat)).setCell ⟨g, i + 1, none⟩ (.int .u8 b.toNat)) := ((Upd.refl (fun k => k = g) w).setCell (p := ⟨g, i, none⟩) (fun _ => rfl) _).setCell (p := ⟨g, i + 1, none⟩) (fun _ => rfl) _
  have hg : (Value.slice (some ⟨g, 0, none⟩) len cap).ownBlock = some g := rfl
  refine ⟨⟨hu.block (fun e => n1 (by rw [hg, e])) h.blk, (h.row.setAt a).setAt b, ?_, h.abs, h.lo, h.cnt⟩, hu.mono fun k _ e => by rw [e]; exact k3 g hg⟩
  obtain ⟨es, clock, hb, r⟩ := h.map
  exact ⟨es, clock, hu.block (fun e => n3 (by rw [hg, e])) hb, r⟩
theorem WrOk.same {s : Wr} (h : WrOk s) {b : Bs} (hb : b.length = s.b.length) : WrOk ⟨b, s.pl⟩ := ⟨h.up, fun p hp => by rw [hb]; exact h.le p hp, by rw [hb]; exact h.cnt⟩
theorem set2_len (l : Bs) (i n : Nat) : (set2 l i n).length = l.length := by simp [set2]
theorem data_eq (r : Rc) (s : Wr) : dataW r s = ⟨set2 (bodyW r (s.add (wd2 0))).b s.b.length ((bodyW r (s.add (wd2 0))).b.length - s.b.length - 2), (bodyW r (s.add (wd2 0))).pl⟩ := rfl
theorem cell4w {w : World} {b : Nat} {a0 a1 a2 a3 : Value} {t : TypeId} (h : w.heap[b]? = some (.cells #[a0, a1, a2, a3] t (0, 0))) : w.cell? ⟨b, 0, none⟩ = some a0 ∧ w.cell? ⟨b, 1, none⟩ = some a1 ∧ w.cell? ⟨b, 2, none⟩ = some a2 ∧ w.cell? ⟨b, 3, none⟩ = some a3 := ⟨by rw [blk_cell h]; rfl, by rw [blk_cell h]; rfl, by rw [blk_cell h]; rfl, by rw [blk_cell h]; rfl⟩
theorem cell7w {w : World} {b : Nat} {a0 a1 a2 a3 a4 a5 a6 : Value} {t : TypeId} (h : w.heap[b]? = some (.cells #[a0, a1, a2, a3, a4, a5, a6] t (0, 0))) : w.cell? ⟨b, 0, none⟩ = some a0 ∧ w.cell? ⟨b, 1, none⟩ = some a1 ∧ w.cell? ⟨b, 2, none⟩ = some a2 ∧ w.cell? ⟨b, 3, none⟩ = some a3 ∧ w.cell? ⟨b, 4, none⟩ = some a4 ∧ w.cell? ⟨b, 5, none⟩ = some a5 ∧ w.cell? ⟨b, 6, none⟩ = some a6 := ⟨by rw [blk_cell h]; rfl, by rw [blk_cell h]; rfl, by rw [blk_cell h]; rfl, by rw [blk_cell h]; rfl, by rw [blk_cell h]; rfl, by rw [blk_cell h]; rfl, by rw [blk_cell h]; rfl⟩
end Go.Proofs.Ytgdejgfmhndbhaa
