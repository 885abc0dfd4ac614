/-
  Slices that are owned and may begin within their block: append, cells, parts.
-/
import Derived.Test.YtdjleplefbmjbaaMem
namespace Go.Proofs.Ytdjleplefbmjbaa
open Go.RowKit
set_option linter.unusedSimpArgs false
set_option linter.unusedVariables false
def OffR (w : World) (e : TypeId) (s : Nat) (v : Value) (n : Nat) (xs : List Value) : Prop :=
  xs.length = n * s ∧ ((v = .slice none 0 0 ∧ n = 0) ∨ ∃ g off cap cur, v = .slice (some ⟨g, off, none⟩) n cap ∧ w.heap[g]? = some (.cells cur e (0, 0)) ∧ n ≤ cap ∧ cap ≤ maxLen ∧ off + cap * s = cur.size ∧ (cur.toList.drop off).take (n * s) = xs)
section
variable {w w' : World} {e : TypeId} {s n : Nat} {v : Value} {xs : List Value}
theorem OffR.nil (w : World) (e : TypeId) (s : Nat) : OffR w e s (.slice none 0 0) 0 [] := ⟨by simp, .inl ⟨rfl, rfl⟩⟩
theorem OffR.of_own {B : Nat} (h : w.ownsRow B e s v n xs) : OffR w e s v n xs := by
  refine ⟨h.1, ?_⟩
  rcases h.2 with ⟨h1, h2⟩ | ⟨g, cap, cur, h1, _, h2, h3, h4, h5, h6⟩
  · exact .inl ⟨h1, h2⟩
  · exact .inr ⟨g, 0, cap, cur, h1, h2, h3, h4, by rw [h5]; omega, by simpa using h6⟩
theorem OffR.kind (h : OffR w e s v n xs) {g : Nat} (hg : v.ownBlock = some g) : ∃ cur, w.heap[g]? = some (.cells cur e (0, 0)) := by
  rcases h.2 with ⟨rfl, _⟩ | ⟨g', off, cap, cur, rfl, hb, _⟩
  · cases hg
  · simp [Value.ownBlock] at hg
    subst hg
    exact ⟨cur, hb⟩
theorem OffR.lt (h : OffR w e s v n xs) {g : Nat} (hg : v.ownBlock = some g) : g < w.heap.size := by
  obtain ⟨cur, hc⟩ := h.kind hg
  exact blk_lt hc
theorem OffR.upd {S : Nat → Prop} (h : OffR w e s v n xs) (k : Upd S w w') (hS : ∀ g, v.ownBlock = some g → ¬ S g) : OffR w' e s v n xs := by
  refine ⟨h.1, ?_⟩
  rcases h.2 with h | ⟨g, off, cap, cur, rfl, hb, r⟩
  · exact .inl h
  · exact .inr ⟨g, off, cap, cur, rfl, k.block (hS g rfl) hb, r⟩
theorem OffR.upd0 (h : OffR w e s v n xs) (k : Upd0 w w') : OffR w' e s v n xs := h.upd k (fun _ _ h => h)
theorem OffR.ext (h : OffR w e s v n xs) (k : Ext w w') : OffR w' e s v n xs := by
  refine ⟨h.1, ?_⟩
  rcases h.2 with h | ⟨g, off, cap, cur, rfl, hb, r⟩
  · exact .inl h
  · exact .inr ⟨g, off, cap, cur, rfl, ext_block k hb, r⟩
theorem OffR.slice (h : OffR w e s v n xs) : ∃ ao cap, v = .slice ao n cap := by
  rcases h.2 with ⟨rfl, rfl⟩ | ⟨g, off, cap, cur, rfl, _⟩ <;> exact ⟨_, _, rfl⟩
theorem OffR.some {ao : Option Addr} {cap : Nat} (h : OffR w e s (.slice ao n cap) n xs) (hn : 0 < n) : ∃ g off, ao = Option.some ⟨g, off, none⟩ := by
  rcases h.2 with ⟨h, rfl⟩ | ⟨g, off, cap, cur, hv, _⟩
  · omega
  · injection hv with h1; exact ⟨g, off, h1⟩
theorem OffR.cell {g off cap : Nat} (h : OffR w e s (.slice (Option.some ⟨g, off, none⟩) n cap) n xs) {j : Nat} {u : Value} (hj : xs[j]? = Option.some u) : w.cell? ⟨g, off + j, none⟩ = Option.some u := by
  rcases h.2 with ⟨h, _⟩ | ⟨g', off', cap', cur, hv, hb, _, _, _, ht⟩
  · cases h
  · cases hv
    rw [blk_cell hb]
    rw [← ht, List.getElem?_take] at hj
    split at hj
    · rw [List.getElem?_drop] at hj
      simpa using hj
    · cases hj
theorem OffR.blk {g off cap : Nat} (h : OffR w e s (.slice (Option.some ⟨g, off, none⟩) n cap) n xs) : ∃ cur, w.heap[g]? = Option.some (.cells cur e (0, 0)) ∧ n ≤ cap ∧ cap ≤ maxLen ∧ off + cap * s = cur.size ∧ (cur.toList.drop off).take (n * s) = xs := by
  rcases h.2 with ⟨h, _⟩ | ⟨g', off', cap', cur, hv, hb, r⟩
  · cases h
  · cases hv
    exact ⟨cur, hb, r⟩
/-- the part behind k elements -/
theorem OffR.drop {g off cap k : Nat} (h : OffR w e s (.slice (Option.some ⟨g, off, none⟩) n cap) n xs) (hk : k ≤ n) : OffR w e s (.slice (Option.some ⟨g, off + k * s, none⟩) (n - k) (cap - k)) (n - k) (xs.drop (k * s)) := by
  obtain ⟨cur, hb, h1, h2, h3, h4⟩ := h.blk
  refine ⟨by rw [List.length_drop, h.1, ← Nat.sub_mul], .inr ⟨g, _, _, cur, rfl, hb, by omega, by omega, ?_, ?_⟩⟩
  · rw [← h3, Nat.add_assoc, ← Nat.add_mul]; congr 2; omega
  · rw [← h4, ← List.drop_drop, List.drop_take, ← Nat.sub_mul]
/-- the first k elements -/
theorem OffR.take {g off cap k : Nat} (h : OffR w e s (.slice (Option.some ⟨g, off, none⟩) n cap) n xs) (hk : k ≤ n) : OffR w e s (.slice (Option.some ⟨g, off, none⟩) k cap) k (xs.take (k * s)) := by
  obtain ⟨cur, hb, h1, h2, h3, h4⟩ := h.blk
  have hm : k * s ≤ n * s := Nat.mul_le_mul_right s hk
  refine ⟨by rw [List.length_take, h.1]; omega, .inr ⟨g, _, _, cur, rfl, hb, by omega, h2, h3, ?_⟩⟩
  rw [← h4, List.take_take, Nat.min_eq_left hm]
/-- a cell is written -/
theorem OffR.set {g off cap : Nat} (h : OffR w e s (.slice (Option.some ⟨g, off, none⟩) n cap) n xs) (j : Nat) (hj : j < n * s) (u : Value) : OffR (w.setCell ⟨g, off + j, none⟩ u) e s (.slice (Option.some ⟨g, off, none⟩) n cap) n (xs.set j u) := by
  obtain ⟨cur, hb, h1, h2, h3, h4⟩ := h.blk
  refine ⟨by rw [List.length_set, h.1], .inr ⟨g, off, cap, _, rfl, blk_set hb (off + j) u, h1, h2, by simpa using h3, ?_⟩⟩
  rw [Array.toList_setIfInBounds, List.drop_set, if_neg (by omega), List.take_set, h4]
  congr 1
  omega
variable {P : Program}
theorem run_append_off (t ty : TypeId) (i : TypeInfo) (ht : P.underlying t = Option.some (.slice e)) (hi : P.info? e = Option.some i)
    (g off sLen sCap : Nat) (cur : Array Value) (hg : w.heap[g]? = Option.some (.cells cur e (0, 0)))
    (a : Addr) (m c : Nat) (news : List Value) (hl : news.length = m * i.size) (hnews : ∀ j u, news[j]? = Option.some u → w.cell? (a.add j) = Option.some u) (h1 : ∀ u ∈ news, u.oneCell' = true)
    (hroom : sLen + m ≤ sCap) (hfit : off + sLen * i.size + news.length ≤ cur.size) :
    (Builtin.append_ #[t, t] ty #[.slice (Option.some ⟨g, off, none⟩) sLen sCap, .slice (Option.some a) m c]).run P w =
      .ok (.slice (Option.some ⟨g, off, none⟩) (sLen + m) sCap) (w.setRow g (cur.toList.take (off + sLen * i.size) ++ news ++ cur.toList.drop (off + sLen * i.size + news.length)).toArray) := by
  have hf := run_firstCells_some (P := P) w i.size m a m c news hl hnews
  have hst := run_storeCells_at P g (off + sLen * i.size) e news 0 cur w hg (by simpa using hfit) h1
  simp only [Nat.add_zero] at hst
  simp [Builtin.append_, run_underlying ht, sizeOf, typeInfo, hi, Builtin.lenOf, hroom, hf, Addr.add_lit, hst]
/-- append to such a slice -/
theorem run_app_off {W : World} (hext : Ext w W) (t ty : TypeId) (i : TypeInfo) (z : Value) (size bytes : Nat) (ht : P.underlying t = Option.some (.slice e)) (hi : P.info? e = Option.some i) (hz : i.zero = Option.some z)
    (hsize : i.size = size) (hby : i.bytes = bytes) (hzs : z.cells.size = size) (hsz : 0 < size)
    (v : Value) (n : Nat) (xs : List Value) (hown : OffR w e size v n xs)
    (ad : Addr) (m c : Nat) (news : List Value) (hm : 0 < m) (hl : news.length = m * size) (hnews : ∀ j u, news[j]? = Option.some u → W.cell? (ad.add j) = Option.some u) (h1 : ∀ u ∈ news, u.oneCell' = true)
    (hbytes : (n + m) * bytes ≤ 140737488355328) (h63 : n + m ≤ 140737488355328) :
    ∃ ao' cap' W', (Builtin.append_ #[t, t] ty #[v, .slice (Option.some ad) m c]).run P W = .ok (.slice ao' (n + m) cap') W' ∧ OffR W' e size (.slice ao' (n + m) cap') (n + m) (xs ++ news) ∧ Upd (fun k => v.ownBlock = Option.some k) W W' ∧ Fresh W v (.slice ao' (n + m) cap') := by
  have hmx : n + m ≤ maxLen := by unfold maxLen; omega
  rcases hown.2 with ⟨rfl, rfl⟩ | ⟨g, off, cap, cur, rfl, hgg, hnc, hcm, hcs, htk⟩
  · have hx : xs = [] := List.eq_nil_of_length_eq_zero (by simpa using hown.1)
    subst hx
    obtain ⟨ao', cap', W', hr, ho, hu, hf, _⟩ := run_append_blk (P := P) hext t ty e i z size bytes ht hi hz hsize hby hzs hsz (.slice none 0 0) 0 [] (World.ownsRow_nil w 0 e size) ad m c news hl hnews h1 hbytes h63
    exact ⟨ao', cap', W', hr, OffR.of_own ho, hu, hf⟩
  · have hgW := ext_block hext hgg
    by_cases hroom : n + m ≤ cap
    · have hms : (n + m) * size ≤ cap * size := Nat.mul_le_mul_right _ hroom
      rw [Nat.add_mul] at hms
      have hfit : off + n * i.size + news.length ≤ cur.size := by rw [hl, hsize]; omega
      have hr := run_append_off (P := P) (w := W) t ty i ht hi g off n cap cur hgW ad m c news (by rw [hsize]; exact hl) hnews h1 hroom hfit
      rw [hsize] at hr hfit
      have hcl : cur.toList.length = cur.size := Array.length_toList
      refine ⟨_, _, _, hr, ⟨by rw [List.length_append, hown.1, hl, ← Nat.add_mul], .inr ⟨g, off, cap, _, rfl, setRow_heap W g cur _ e _ hgW, hroom, hcm, ?_, ?_⟩⟩, ?_, fun k hk => .inl hk⟩
      · simp only [List.size_toArray, List.length_append, List.length_take, List.length_drop, hcl]
        omega
      · have e1 : (cur.toList.take (off + n * size)).drop off = xs := by rw [List.drop_take, Nat.add_sub_cancel_left]; exact htk
        have e2 : (cur.toList.take (off + n * size)).length = off + n * size := by rw [List.length_take, hcl]; omega
        rw [List.append_assoc, List.drop_append_of_le_length (by rw [e2]; omega), e1, List.take_append, hown.1, List.take_of_length_le (by rw [hown.1, Nat.add_mul]; omega), Nat.add_mul, Nat.add_sub_cancel_left, ← hl, List.take_left]
      · exact Upd.setRow (S := fun k => (Value.slice (Option.some ⟨g, off, none⟩) n cap).ownBlock = Option.some k) (Upd.refl _ W) (fun _ => rfl) _
    · have holds : ∀ j u, xs[j]? = Option.some u → W.cell? ((⟨g, off, none⟩ : Addr).add j) = Option.some u := fun j u hj => by
        rw [Addr.add_lit]
        exact (hown.ext hext).cell hj
      have hr := run_append_grow (P := P) W t ty e i z ht hi hz ⟨g, off, none⟩ n cap xs (by rw [hsize]; exact hown.1) holds ad m c news (by rw [hsize]; exact hl) hnews (by omega) (by omega) (by rw [hby]; exact growslice_fits (by omega) hbytes)
      have hge := grownCap_ge W (n + m) cap e
      have hcm' : grownCap W (n + m) cap e ≤ maxLen := grownCap_le_maxLen W (n + m) cap e hmx
      refine ⟨_, _, _, hr, ⟨by rw [List.length_append, hown.1, hl, ← Nat.add_mul], .inr ⟨W.heap.size, 0, _, _, rfl, heap_alloc_new W.drew _, hge, hcm', ?_, ?_⟩⟩, ((Upd.refl _ W).drew).alloc _, fun k hk => .inr (by simp [Value.ownBlock] at hk; omega)⟩
      · simp only [Array.size_append, List.size_toArray, size_zeroCells, hzs, hown.1, hl, ← Nat.add_mul, Nat.zero_add]
        congr 1
        omega
      · simp only [Array.toList_append, List.append_assoc, List.drop_zero]
        have : (xs ++ news).length = (n + m) * size := by rw [List.length_append, hown.1, hl, ← Nat.add_mul]
        rw [← List.append_assoc, ← this]
        exact List.take_left
theorem wpList_app_off {w W : World} (hext : Ext w W) {ops : Array Oper} {rest : List Oper} {o : Oper} {a : Act} {Q : Exit → Act → World → Prop} (hgd : o.guard = none) (sl x : Operand) (t : TypeId)
    (ho : o.op = .call { callee := .builtin .append, args := #[sl, x], argTypes := #[t, t] })
    (e : TypeId) (i : TypeInfo) (z : Value) (size bytes : Nat) (ht : P.underlying t = Option.some (.slice e)) (hi : P.info? e = Option.some i) (hz : i.zero = Option.some z)
    (hsize : i.size = size) (hby : i.bytes = bytes) (hzs : z.cells.size = size) (hsz : 0 < size)
    (v : Value) (n : Nat) (xs : List Value) (hown : OffR w e size v n xs) (hs : a.eval sl = v)
    (g m c : Nat) (news : List Value) (hm : 0 < m) (hx : a.eval x = .slice (Option.some ⟨g, 0, none⟩) m c) (hl : news.length = m * size) (hnews : W.heap[g]? = Option.some (.cells news.toArray e (0, 0))) (h1 : news.all (·.oneCell') = true)
    (hbytes : (n + m) * bytes ≤ 140737488355328) (h63 : n + m ≤ 140737488355328)
    (h : ∀ ao' cap' W', OffR W' e size (.slice ao' (n + m) cap') (n + m) (xs ++ news) → Upd (fun k => v.ownBlock = Option.some k) W W' → Fresh W v (.slice ao' (n + m) cap') → wpList P ops Q rest (a.put o.dst (.slice ao' (n + m) cap')) W') : wpList P ops Q (o :: rest) a W :=
  wpList_plain hgd fun _ hK => by
    obtain ⟨ao', cap', W', hr, h2, h3, h4⟩ := run_app_off (P := P) hext t o.type i z size bytes ht hi hz hsize hby hzs hsz v n xs hown ⟨g, 0, none⟩ m c news hm hl
      (fun j u hu => by rw [Addr.add_lit, Nat.zero_add, blk_cell hnews]; simpa using hu) (fun u hu => List.all_eq_true.1 h1 u hu) hbytes h63
    unfold Oper.wp execOp
    simp only [ho, resolve, invoke, builtin, Sem.run_bind, Sem.run_pure, Result.andThen_ok, List.map_toArray, List.map_cons, List.map_nil, hs, hx, hr]
    exact hK _ _ (h ao' cap' W' h2 h3 h4)
end
end Go.Proofs.Ytdjleplefbmjbaa
