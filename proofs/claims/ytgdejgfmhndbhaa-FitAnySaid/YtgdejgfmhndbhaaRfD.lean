/-
  The document's writer: a record's data, records: the parts.
-/
import Derived.Test.YtgdejgfmhndbhaaRfN
import Derived.Test.YtgdejgfmhndbhaaKb
namespace Go.Proofs.Ytgdejgfmhndbhaa
open Go.RowKit Go.Maps
set_option linter.unusedSimpArgs false
set_option linter.unusedVariables false
variable {B : Nat}
theorem RfI.set1 {w : World} {t g len cap : Nat} {s : Wr} {pv : Value} (h : RfI B w t s (.slice (some ⟨g, 0, none⟩) len cap) pv) (i : Nat) (a : UInt8) :
    RfI B (w.setCell ⟨g, i, none⟩ (.int .u8 a.toNat)) t ⟨s.b.set i a, s.pl⟩ (.slice (some ⟨g, 0, none⟩) len cap) pv ∧ UpdF B w (w.setCell ⟨g, i, none⟩ (.int .u8 a.toNat)) := by
  obtain ⟨n1, n2, n3⟩ := h.ne
  obtain ⟨k1, k2, k3⟩ := h.kinds
  have hg : (Value.slice (some ⟨g, 0, none⟩) len cap).ownBlock = some g := rfl
  have hu : Upd (fun k => k = g) w (w.setCell ⟨g, i, none⟩ (.int .u8 a.toNat)) := (Upd.refl (fun k => k = g) w).setCell (p := ⟨g, i, none⟩) (fun _ => rfl) _
  exact ⟨⟨hu.block (fun e => n1 (by rw [hg, e])) h.blk, h.row.setAt a, ownsRow_upd h.pls hu (fun q hq e => n3 g hg (by rw [hq, e])), h.lo⟩, hu.mono fun k _ e => by rw [e]; exact k2 g hg⟩
theorem nameW_pl {n : Bs} (hc : cutB n = true) {s : Wr} (hp : s.pl.length ≤ s.b.length) : (nameW n s).pl.length ≤ (nameW n s).b.length := by
  have : ∀ (L : List Bs) (s : Wr), s.pl.length ≤ s.b.length → (nameL L s).pl.length ≤ (nameL L s).b.length := by
    intro L
    induction L with
    | nil => intro s h; simp [nameL, Wr.add]; omega
    | cons x L ih =>
      intro s h
      rw [nameL]
      cases fnd s.pl (jn (x :: L)) with
      | some a => simp [Wr.add]; omega
      | none => exact ih _ (by simp; omega)
  exact this _ _ hp
theorem add_pl {s : Wr} (hp : s.pl.length ≤ s.b.length) (l : Bs) : (s.add l).pl.length ≤ (s.add l).b.length := by simp [Wr.add]; omega
theorem body_pl {r : Rc} (h : r.Good) {s : Wr} (hp : s.pl.length ≤ s.b.length) : (bodyW r s).pl.length ≤ (bodyW r s).b.length := by
  by_cases h6 : r.ty = 6
  · have hps : psB r.d = true := by
      have := h.fit
      rw [fitB, h6] at this
      simpa using this
    obtain ⟨p1, p2, _⟩ := soa_parts hps
    rw [body_soa s h6]
    exact add_pl (nameW_pl p2 (nameW_pl p1 hp)) _
  · by_cases h2 : phC r.ty r.d = 0 ∧ r.ty ≠ 33
    · rw [body_host s h6 h2.1 h2.2]
      exact nameW_pl (host_parts h2.1).1 (add_pl hp _)
    · rw [body_txt s h6 h2]
      exact add_pl hp _
theorem data_pl {r : Rc} (h : r.Good) {s : Wr} (hp : s.pl.length ≤ s.b.length) : (dataW r s).pl.length ≤ (dataW r s).b.length := by
  rw [data_eq]
  simp only [set2_len]
  exact body_pl h (add_pl hp _)
theorem rec_pl {r : Rc} (h : r.Good) {s : Wr} (hp : s.pl.length ≤ s.b.length) : (recW r s).pl.length ≤ (recW r s).b.length := data_pl h (add_pl (add_pl (add_pl (nameW_pl h.nm hp) _) _) _)
theorem recs_pl : ∀ {l : List Rc} {s : Wr}, l.all Rc.ok = true → s.pl.length ≤ s.b.length → (recsW l s).pl.length ≤ (recsW l s).b.length
  | [], s, _, hp => hp
  | r :: l, s, h, hp => by
    simp only [List.all_cons, Bool.and_eq_true] at h
    exact recs_pl (l := l) (s := recW r s) h.2 (rec_pl (Rc.good h.1) hp)
theorem qu_pl {q : Qn} (h : q.ok = true) {s : Wr} (hp : s.pl.length ≤ s.b.length) : (quW q s).pl.length ≤ (quW q s).b.length := by
  simp only [Qn.ok, Bool.and_eq_true] at h
  exact add_pl (add_pl (nameW_pl h.1 hp) _) _
theorem qus_pl : ∀ {l : List Qn} {s : Wr}, l.all Qn.ok = true → s.pl.length ≤ s.b.length → (qusW l s).pl.length ≤ (qusW l s).b.length
  | [], s, _, hp => hp
  | r :: l, s, h, hp => by
    simp only [List.all_cons, Bool.and_eq_true] at h
    exact qus_pl (l := l) (s := quW r s) h.2 (qu_pl h.1 hp)
end Go.Proofs.Ytgdejgfmhndbhaa
