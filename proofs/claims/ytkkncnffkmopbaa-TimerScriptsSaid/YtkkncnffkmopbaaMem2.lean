/-
  More laws of walks: append from any cells.
-/
import Derived.Test.YtkkncnffkmopbaaMem
namespace Go.Proofs.Ytkkncnffkmopbaa
open Go.RowKit
set_option linter.unusedSimpArgs false
set_option linter.unusedVariables false
section
variable {P : Program}
theorem wpList_appx {w W : World} (hext : Ext w W) {ops : Array Oper} {rest : List Oper} {o : Oper} {a : Act} {Q : Exit → Act → World → Prop} (hgd : o.guard = none) (s x : Operand) (t : TypeId)
    (ho : o.op = .call { callee := .builtin .append, args := #[s, x], argTypes := #[t, t] })
    (e : TypeId) (i : TypeInfo) (z : Value) (size bytes : Nat) (ht : P.underlying t = some (.slice e)) (hi : P.info? e = some i) (hz : i.zero = some z)
    (hsize : i.size = size) (hby : i.bytes = bytes) (hzs : z.cells.size = size) (hsz : 0 < size)
    (v : Value) (n : Nat) (xs : List Value) (hown : w.ownsRow 0 e size v n xs) (hs : a.eval s = v)
    (ad : Addr) (m c : Nat) (news : List Value) (hx : a.eval x = .slice (some ad) m c) (hl : news.length = m * size) (hnews : ∀ j u, news[j]? = some u → W.cell? (ad.add j) = some u) (h1 : ∀ u ∈ news, u.oneCell' = true)
    (hbytes : (n + m) * bytes ≤ 140737488355328) (h63 : n + m ≤ 140737488355328)
    (h : ∀ ao' cap' W', W'.ownsRow 0 e size (.slice ao' (n + m) cap') (n + m) (xs ++ news) → Upd (fun k => v.ownBlock = some k) W W' → Fresh W v (.slice ao' (n + m) cap') → wpList P ops Q rest (a.put o.dst (.slice ao' (n + m) cap')) W') : wpList P ops Q (o :: rest) a W :=
  wpList_plain hgd fun _ hK => by
    obtain ⟨ao', cap', W', hr, h2, h3, h4, _⟩ := run_append_blk (P := P) hext t o.type e i z size bytes ht hi hz hsize hby hzs hsz v n xs hown ad m c news hl hnews h1 hbytes h63
    unfold Oper.wp execOp
    simp only [ho, resolve, invoke, builtin, Sem.run_bind, Sem.run_pure, Result.andThen_ok, List.map_toArray, List.map_cons, List.map_nil, hs, hx, hr]
    exact hK _ _ (h ao' cap' W' h2 h3 h4)
/-- the same where what is appended is nil -/
theorem wpList_app_nil {w W : World} (hext : Ext w W) {ops : Array Oper} {rest : List Oper} {o : Oper} {a : Act} {Q : Exit → Act → World → Prop} (hgd : o.guard = none) (s x : Operand) (t : TypeId)
    (ho : o.op = .call { callee := .builtin .append, args := #[s, x], argTypes := #[t, t] })
    (e : TypeId) (i : TypeInfo) (size : Nat) (ht : P.underlying t = some (.slice e)) (hi : P.info? e = some i) (hsize : i.size = size)
    (v : Value) (n : Nat) (xs : List Value) (hown : w.ownsRow 0 e size v n xs) (hs : a.eval s = v) (hx : a.eval x = .slice none 0 0)
    (h : wpList P ops Q rest (a.put o.dst v) W) : wpList P ops Q (o :: rest) a W :=
  wpList_plain hgd fun _ hK => by
    have hr := run_append_owned_none (P := P) W 0 t o.type e i size ht hi v n xs (ownsRow_ext hown hext)
    unfold Oper.wp execOp
    simp only [ho, resolve, invoke, builtin, Sem.run_bind, Sem.run_pure, Result.andThen_ok, List.map_toArray, List.map_cons, List.map_nil, hs, hx, hr]
    exact hK _ _ h
end
/-- the cells of a slice's part -/
theorem part_cells {α : Type} {f : α → List Value} {s : Nat} (hf : ∀ x, (f x).length = s) {w : World} {B : Nat} {e : TypeId} {l : List α} {n g cap : Nat} (h : w.ownsRow B e s (.slice (some ⟨g, 0, none⟩) n cap) n (l.flatMap f)) (i m : Nat) :
    ∀ j u, (((l.drop i).take m).flatMap f)[j]? = some u → w.cell? ((⟨g, i * s, none⟩ : Addr).add j) = some u := by
  intro j u hu
  rw [Addr.add_lit]
  refine ownsRow_cell h rfl ?_
  rw [← flat_take hf, ← flat_drop hf, List.getElem?_take] at hu
  split at hu
  · rw [List.getElem?_drop] at hu; exact hu
  · cases hu
end Go.Proofs.Ytkkncnffkmopbaa
