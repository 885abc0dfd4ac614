/-
  Slices of bytes that are a call's own, in memory; from strings, to strings; append.
-/
import Derived.Lib.ConvBytes
import Derived.Lib.AppendStr
import Derived.Laws.IdiomStrings
import Derived.Test.YtdjleplefbmjbaaStr
namespace Go.Proofs.Ytdjleplefbmjbaa
open Go.RowKit
set_option linter.unusedSimpArgs false
set_option linter.unusedVariables false
def byt (l : Bs) : List Value := l.map fun b => .int .u8 b.toNat
theorem byt_len (l : Bs) : (byt l).length = l.length := by simp [byt]
theorem byt_app (a b : Bs) : byt (a ++ b) = byt a ++ byt b := by simp [byt]
theorem byt_one (l : Bs) : ∀ u ∈ byt l, u.oneCell' = true := by
  intro u hu
  simp only [byt, List.mem_map] at hu
  obtain ⟨b, _, rfl⟩ := hu
  rfl
theorem byt_get {l : Bs} {i : Nat} (h : i < l.length) : (byt l)[i]? = some (.int .u8 l[i].toNat) := by simp [byt, h]
/-- the slice v holds the bytes l, in a block from B on (or is nil); what is frozen of it lies behind its capacity -/
def BR (e : TypeId) (B : Nat) (w : World) (v : Value) (l : Bs) : Prop :=
  (v = .slice none 0 0 ∧ l = []) ∨ ∃ g cap cur fz, v = .slice (some ⟨g, 0, none⟩) l.length cap ∧ B ≤ g ∧ w.heap[g]? = some (.cells cur e fz) ∧ (fz.2 ≤ 0 ∨ cap ≤ fz.1) ∧ l.length ≤ cap ∧ cap ≤ maxLen ∧ cur.size = cap ∧ cur.toList.take l.length = byt l
section
variable {e : TypeId} {B : Nat} {w w' : World} {v : Value} {l : Bs}
theorem BR.isSlice (h : BR e B w v l) : ∃ ao cap, v = .slice ao l.length cap := by
  rcases h with ⟨rfl, rfl⟩ | ⟨g, cap, cur, fz, rfl, _⟩ <;> exact ⟨_, _, rfl⟩
theorem BR.lt (h : BR e B w v l) {g : Nat} (hg : v.ownBlock = some g) : B ≤ g ∧ g < w.heap.size := by
  rcases h with ⟨rfl, rfl⟩ | ⟨g', cap, cur, fz, rfl, h1, h2, _⟩
  · cases hg
  · cases hg; exact ⟨h1, blk_lt h2⟩
theorem BR.upd {S : Nat → Prop} (h : BR e B w v l) (k : Upd S w w') (hS : ∀ g, v.ownBlock = some g → ¬ S g) : BR e B w' v l := by
  rcases h with h | ⟨g, cap, cur, fz, rfl, h1, h2, h3⟩
  · exact .inl h
  · exact .inr ⟨g, cap, cur, fz, rfl, h1, k.block (hS g rfl) h2, h3⟩
theorem BR.up (h : BR e B w v l) (k : Upd0 w w') : BR e B w' v l := h.upd k (fun _ _ h => h)
theorem BR.mono {B' : Nat} (h : BR e B w v l) (hB : B' ≤ B) : BR e B' w v l := by
  rcases h with h | ⟨g, cap, cur, fz, rfl, h1, h2⟩
  · exact .inl h
  · exact .inr ⟨g, cap, cur, fz, rfl, by omega, h2⟩
theorem BR.none0 (e : TypeId) (B : Nat) (w : World) : BR e B w (.slice none 0 0) [] := .inl ⟨rfl, rfl⟩
theorem BR.ptr {ao : Option Addr} {n cap : Nat} (h : BR e B w (.slice ao n cap) l) (hl : 0 < l.length) : ∃ g, ao = some ⟨g, 0, none⟩ ∧ n = l.length := by
  rcases h with ⟨h, rfl⟩ | ⟨g, cap, cur, fz, hv, _⟩
  · simp at hl
  · injection hv with h1 h2; exact ⟨g, h1, h2⟩
theorem BR.cells {g n cap : Nat} (h : BR e B w (.slice (some ⟨g, 0, none⟩) n cap) l) : ∃ cur fz, w.heap[g]? = some (.cells cur e fz) ∧ (fz.2 ≤ 0 ∨ cap ≤ fz.1) ∧ l.length ≤ cap ∧ cap ≤ maxLen ∧ cur.size = cap ∧ cur.toList.take l.length = byt l := by
  rcases h with ⟨h, _⟩ | ⟨g', cap', cur, fz, hv, h1, h2, h3⟩
  · cases h
  · cases hv; exact ⟨cur, fz, h2, h3⟩
theorem BR.cell {g n cap i : Nat} (h : BR e B w (.slice (some ⟨g, 0, none⟩) n cap) l) (hi : i < l.length) : w.cell? ⟨g, i, none⟩ = some (.int .u8 l[i].toNat) := by
  obtain ⟨cur, fz, h1, h2, h3, h4, h5, h6⟩ := h.cells
  have := byt_get hi
  rw [← h6, List.getElem?_take_of_lt hi] at this
  rw [blk_cell h1]; simpa using this
theorem BR.frz {g n cap i : Nat} (h : BR e B w (.slice (some ⟨g, 0, none⟩) n cap) l) (hi : i < l.length) : w.frozen? ⟨g, i, none⟩ = false := by
  obtain ⟨cur, ⟨lo, hh⟩, h1, h2, h3, h4, h5, h6⟩ := h.cells
  simp only [World.frozen?, h1, Bool.and_eq_false_iff, decide_eq_false_iff_not]
  simp only at h2
  omega
theorem BR.setAt {g n cap i : Nat} (h : BR e B w (.slice (some ⟨g, 0, none⟩) n cap) l) (b : UInt8) : BR e B (w.setCell ⟨g, i, none⟩ (.int .u8 b.toNat)) (.slice (some ⟨g, 0, none⟩) n cap) (l.set i b) := by
  rcases h with ⟨h, _⟩ | ⟨g', cap', cur, fz, hv, h1, h2, h3, h4, h5, h6, h7⟩
  · cases h
  · cases hv
    refine .inr ⟨g, cap, _, fz, by rw [List.length_set], h1, blk_set h2 i _, h3, by simpa using h4, h5, by simpa using h6, ?_⟩
    rw [List.length_set, Array.toList_setIfInBounds, List.take_set, h7]
    simp [byt, List.map_set]
/-- storing cells where nothing is frozen -/
theorem run_storeCells_free (P : Program) (g o : Nat) (t : TypeId) (fz : Nat × Nat) : ∀ (vs : List Value) (i : Nat) (cur : Array Value) (w : World), w.heap[g]? = some (.cells cur t fz) → (fz.2 ≤ 0 ∨ o + i + vs.length ≤ fz.1) → o + i + vs.length ≤ cur.size → (∀ v ∈ vs, v.oneCell' = true) →
    (storeCells ⟨g, o, none⟩ vs i).run P w = .ok () (w.setRow g (cur.toList.take (o + i) ++ vs ++ cur.toList.drop (o + i + vs.length)).toArray)
  | [], i, cur, w, hg, _, _, _ => by
    simp only [storeCells, List.append_nil, List.length_nil, Nat.add_zero, List.take_append_drop, Array.toArray_toList]
    rw [setRow_self w g cur t fz hg]; rfl
  | v :: rest, i, cur, w, hg, hfz, hl, h1 => by
    have hi : o + i < cur.size := by simp at hl; omega
    have hadd : (⟨g, o, none⟩ : Addr).add i = ⟨g, o + i, none⟩ := by rw [Addr.add_lit]
    have hcell : w.cell? ⟨g, o + i, none⟩ = some cur[o + i] := by rw [blk_cell hg]; simp [hi]
    have hfro : w.frozen? ⟨g, o + i, none⟩ = false := by
      obtain ⟨lo, hh⟩ := fz
      simp only [World.frozen?, hg, Bool.and_eq_false_iff, decide_eq_false_iff_not]
      simp only [List.length_cons] at hfz
      omega
    have hst : (store ((⟨g, o, none⟩ : Addr).add i) v).run P w = .ok () (w.setRow g (cur.setIfInBounds (o + i) v)) := by
      rw [hadd, run_store P w _ v _ (h1 v (by simp)), hcell]
      simp [hfro, setCell_eq_setRow w g (o + i) cur t fz v hg]
    have ih := run_storeCells_free P g o t fz rest (i + 1) (cur.setIfInBounds (o + i) v) (w.setRow g (cur.setIfInBounds (o + i) v)) (setRow_heap w g cur _ t _ hg) (by simp at hfz; omega) (by simp at hl ⊢; omega) (fun x hx => h1 x (by simp [hx]))
    simp only [storeCells, Sem.run_bind, hst, Result.andThen_ok, ih, setRow_setRow]
    congr 3
    have e := list_seg_step cur.toList (o + i) v rest (by simp at hl ⊢; omega)
    simpa [Array.toList_setIfInBounds, Nat.add_assoc] using e
/-- what a row becomes by bytes behind its length -/
theorem BR.room {g n cap : Nat} {cur : Array Value} {fz : Nat × Nat} {news : Bs} (hg : w.heap[g]? = some (.cells cur e fz)) (hB : B ≤ g) (hz : fz.2 ≤ 0 ∨ cap ≤ fz.1) (hm : cap ≤ maxLen) (hs : cur.size = cap) (ht : cur.toList.take l.length = byt l) (hroom : l.length + news.length ≤ cap) :
    BR e B (w.setRow g (cur.toList.take l.length ++ byt news ++ cur.toList.drop (l.length + (byt news).length)).toArray) (.slice (some ⟨g, 0, none⟩) (l.length + news.length) cap) (l ++ news) := by
  refine .inr ⟨g, cap, _, fz, by simp, hB, setRow_heap w g cur _ e _ hg, hz, by simpa using hroom, hm, ?_, ?_⟩
  · simp only [List.size_toArray, List.length_append, List.length_take, List.length_drop, Array.length_toList, byt_len]; omega
  · simp only []
    rw [ht, ← byt_app, show (l ++ news).length = (byt (l ++ news)).length by rw [byt_len]]
    exact List.take_left
theorem BR.grow {cap : Nat} {news : Bs} {X : List Value} {W : World} (hB : B ≤ w.heap.size) (hc : l.length + news.length ≤ cap) (hm : cap ≤ maxLen) (hX : X.length = cap - (l.length + news.length)) (hW : W.heap = w.heap) :
    BR e B (W.alloc (.cells ((byt l).toArray ++ (byt news).toArray ++ X.toArray) e)) (.slice (some ⟨w.heap.size, 0, none⟩) (l.length + news.length) cap) (l ++ news) := by
  refine .inr ⟨w.heap.size, cap, (byt l).toArray ++ (byt news).toArray ++ X.toArray, (0, 0), by simp, hB, ?_, .inl (Nat.le_refl _), by simpa using hc, hm, ?_, ?_⟩
  · exact alloc_last _ _ _ (by rw [hW])
  · simp only [Array.size_append, List.size_toArray, byt_len, hX]; omega
  · simp only [Array.toList_append]
    rw [← byt_app, show (l ++ news).length = (byt (l ++ news)).length by rw [byt_len]]
    exact List.take_left
end
theorem zc_len (n : Nat) : (Builtin.zeroCells (Value.int .u8 0).cells n).toList.length = n := by
  have h : (Value.int .u8 0).cells.size = 1 := rfl
  simp [Builtin.zeroCells, h]
theorem byt_str (l : Bs) : Lib.strCells ⟨l.toArray⟩ = byt l := by simp [Lib.strCells, byt]
section
variable {P : Program}
/-- append bytes that lie in memory -/
theorem run_appB {W : World} (t ty e : TypeId) (i : TypeInfo) (ht : P.underlying t = some (.slice e)) (hi : P.info? e = some i) (hz : i.zero = some (.int .u8 0)) (hs : i.size = 1) (hb : i.bytes = 1)
    {B : Nat} {v : Value} {l news : Bs} (h : BR e B W v l) (hB : B ≤ W.heap.size) (ad : Addr) (m c : Nat) (hm : m = news.length) (hn : ∀ j u, (byt news)[j]? = some u → W.cell? (ad.add j) = some u) (hbig : l.length + news.length ≤ 140737488355328) :
    ∃ v' W', (Builtin.append_ #[t, t] ty #[v, .slice (some ad) m c]).run P W = .ok v' W' ∧ BR e B W' v' (l ++ news) ∧ Upd (fun k => v.ownBlock = some k) W W' ∧ (∃ ao cap, v' = .slice ao (l.length + news.length) cap) ∧ Fresh W v v' := by
  subst hm
  have hml : (140737488355328 : Nat) ≤ maxLen := by unfold maxLen; decide
  have hl1 : (byt news).length = news.length * i.size := by rw [byt_len, hs, Nat.mul_one]
  rcases h with ⟨rfl, rfl⟩ | ⟨g, cap, cur, fz, rfl, hgB, hg, hz1, hnc, hcm, hcs, htk⟩
  · by_cases h0 : news.length = 0
    · have : news = [] := List.eq_nil_of_length_eq_zero h0
      subst this
      refine ⟨.slice none 0 0, W, ?_, BR.none0 _ _ _, Upd.refl _ _, ⟨none, 0, rfl⟩, Fresh.refl _ _⟩
      simp [Builtin.append_, run_underlying ht, sizeOf, typeInfo, hi, Builtin.lenOf, run_firstCells_none, Builtin.firstCells, loadCells, loadCellsFrom, storeCells, Sem.run_pure]
    · have hr := run_append_nil (P := P) W t ty e i (.int .u8 0) ht hi hz ad news.length c (byt news) hl1 hn (by omega) (by omega) (by rw [hb]; simp only [List.length_nil] at hbig; omega)
      have hge := grownCap_ge W news.length 0 e
      have hgm := grownCap_le_maxLen W news.length 0 e (by simp only [List.length_nil] at hbig; omega)
      refine ⟨_, _, hr, ?_, ⟨rfl, rfl, rfl, by simp, fun k hk _ => Below.heap_alloc W.drew _ k hk⟩, ⟨_, _, by rw [List.length_nil, Nat.zero_add]⟩, fun k hk => by simp [Value.ownBlock] at hk; right; omega⟩
      have := BR.grow (e := e) (B := B) (w := W) (l := []) (news := news) (cap := grownCap W news.length 0 e) (X := (Builtin.zeroCells (Value.int .u8 0).cells (grownCap W news.length 0 e - news.length)).toList) (W := W.drew) hB (by simpa using hge) hgm (by rw [zc_len, List.length_nil, Nat.zero_add]) rfl
      simpa [byt] using this
  · by_cases hroom : l.length + news.length ≤ cap
    · have hf := run_firstCells_some (P := P) W i.size news.length ad news.length c (byt news) hl1 hn
      have hst := run_storeCells_free P g l.length e fz (byt news) 0 cur W hg (by rw [byt_len]; omega) (by rw [byt_len]; omega) (byt_one news)
      simp only [Nat.add_zero] at hst
      have hr : (Builtin.append_ #[t, t] ty #[.slice (some ⟨g, 0, none⟩) l.length cap, .slice (some ad) news.length c]).run P W = .ok (.slice (some ⟨g, 0, none⟩) (l.length + news.length) cap) (W.setRow g (cur.toList.take l.length ++ byt news ++ cur.toList.drop (l.length + (byt news).length)).toArray) := by
        rw [hs] at hf
        simp [Builtin.append_, run_underlying ht, sizeOf, typeInfo, hi, hs, Builtin.lenOf, hroom, hf, Addr.add_lit, hst]
      exact ⟨_, _, hr, BR.room (n := l.length) hg hgB hz1 hcm hcs htk hroom, (Upd.refl (fun k => (Value.slice (some ⟨g, 0, none⟩) l.length cap).ownBlock = some k) W).setRow (g := g) (fun _ => rfl) _, ⟨_, _, rfl⟩, fun k hk => .inl hk⟩
    · have holds : ∀ j u, (byt l)[j]? = some u → W.cell? ((⟨g, 0, none⟩ : Addr).add j) = some u := by
        intro j u hu
        rw [← htk] at hu
        rw [Addr.add_lit, Nat.zero_add, blk_cell hg]
        rw [List.getElem?_take] at hu
        split at hu
        · simpa using hu
        · cases hu
      have hr := run_append_grow (P := P) W t ty e i (.int .u8 0) ht hi hz ⟨g, 0, none⟩ l.length cap (byt l) (by rw [byt_len, hs, Nat.mul_one]) holds ad news.length c (byt news) hl1 hn (by omega) (by omega) (by rw [hb]; exact growslice_fits (by omega) (by omega))
      have hge := grownCap_ge W (l.length + news.length) cap e
      have hgm := grownCap_le_maxLen W (l.length + news.length) cap e (by omega)
      refine ⟨_, _, hr, ?_, ⟨rfl, rfl, rfl, by simp, fun k hk _ => Below.heap_alloc W.drew _ k hk⟩, ⟨_, _, rfl⟩, fun k hk => by simp [Value.ownBlock] at hk; right; omega⟩
      have := BR.grow (e := e) (B := B) (w := W) (l := l) (news := news) (cap := grownCap W (l.length + news.length) cap e) (X := (Builtin.zeroCells (Value.int .u8 0).cells (grownCap W (l.length + news.length) cap e - (l.length + news.length))).toList) (W := W.drew) hB hge hgm (zc_len _) rfl
      simpa using this
/-- append a string -/
theorem run_appS {W : World} (t u ty e : TypeId) (i : TypeInfo) (ht : P.underlying t = some (.slice e)) (hu : P.underlying u = some .string) (hi : P.info? e = some i) (hz : i.zero = some (.int .u8 0)) (hs : i.size = 1) (hb : i.bytes = 1)
    {B : Nat} {v : Value} {l news : Bs} (h : BR e B W v l) (hB : B ≤ W.heap.size) (hbig : l.length + news.length ≤ 140737488355328) :
    ∃ v' W', (Builtin.append_ #[t, u] ty #[v, .string ⟨news.toArray⟩]).run P W = .ok v' W' ∧ BR e B W' v' (l ++ news) ∧ Upd (fun k => v.ownBlock = some k) W W' ∧ (∃ ao cap, v' = .slice ao (l.length + news.length) cap) ∧ Fresh W v v' := by
  have hml : (140737488355328 : Nat) ≤ maxLen := by unfold maxLen; decide
  rcases h with ⟨rfl, rfl⟩ | ⟨g, cap, cur, fz, rfl, hgB, hg, hz1, hnc, hcm, hcs, htk⟩
  · simp only [List.length_nil, Nat.zero_add] at hbig
    obtain ⟨v', W', hr, ho, hgr, hnil⟩ := Lib.run_append_own_string (P := P) W W.heap.size t u ty e i ht hu hi hz hs hb (.slice none 0 0) 0 [] (World.ownsRow_nil _ _ _ _) ⟨news.toArray⟩ (by simp [ByteArray.size]; omega) (by simp [ByteArray.size]; omega) (Nat.le_refl _)
    have hsz : (⟨news.toArray⟩ : ByteArray).size = news.length := rfl
    rw [hsz, byt_str] at ho
    refine ⟨v', W', hr, ?_, ⟨hgr.os, hgr.tape, hgr.output, hgr.size, fun k hk _ => hgr.block k hk (by simp [Value.ownBlock])⟩, ?_, fun k hk => .inr (ho.lt k hk).1⟩
    · rcases ho.2 with ⟨rfl, hn⟩ | ⟨g, cap, cur, rfl, hb1, hb2, hb3, hb4, hb5, hb6⟩
      · have : news = [] := List.eq_nil_of_length_eq_zero (by omega)
        subst this; exact BR.none0 _ _ _
      · refine .inr ⟨g, cap, cur, (0, 0), by simp, by omega, hb2, .inl (Nat.le_refl _), by simpa using hb3, hb4, by simpa using hb5, ?_⟩
        simpa using hb6
    · obtain ⟨ao, cap, rfl⟩ := ownsRow_slice ho
      exact ⟨ao, cap, by simp⟩
  · by_cases hroom : l.length + news.length ≤ cap
    · have hf := Lib.run_firstCells_string (P := P) W 1 ⟨news.toArray⟩
      rw [byt_str] at hf
      have hst := run_storeCells_free P g l.length e fz (byt news) 0 cur W hg (by rw [byt_len]; omega) (by rw [byt_len]; omega) (byt_one news)
      simp only [Nat.add_zero] at hst
      have hr : (Builtin.append_ #[t, u] ty #[.slice (some ⟨g, 0, none⟩) l.length cap, .string ⟨news.toArray⟩]).run P W = .ok (.slice (some ⟨g, 0, none⟩) (l.length + news.length) cap) (W.setRow g (cur.toList.take l.length ++ byt news ++ cur.toList.drop (l.length + (byt news).length)).toArray) := by
        have hsz : (⟨news.toArray⟩ : ByteArray).size = news.length := rfl
        rw [hsz] at hf
        simp [Builtin.append_, run_underlying ht, run_underlying hu, sizeOf, typeInfo, hi, hs, Builtin.lenOf, hsz, hroom, hf, Addr.add_lit, hst]
      exact ⟨_, _, hr, BR.room (n := l.length) hg hgB hz1 hcm hcs htk hroom, (Upd.refl (fun k => (Value.slice (some ⟨g, 0, none⟩) l.length cap).ownBlock = some k) W).setRow (g := g) (fun _ => rfl) _, ⟨_, _, rfl⟩, fun k hk => .inl hk⟩
    · have holds : ∀ j u, (byt l)[j]? = some u → W.cell? ((⟨g, 0, none⟩ : Addr).add j) = some u := by
        intro j u hu
        rw [← htk] at hu
        rw [Addr.add_lit, Nat.zero_add, blk_cell hg]
        rw [List.getElem?_take] at hu
        split at hu
        · simpa using hu
        · cases hu
      have hsz : (⟨news.toArray⟩ : ByteArray).size = news.length := rfl
      have hr := Lib.run_append_grow_string (P := P) W t u ty e i (.int .u8 0) ht hu hi hz ⟨g, 0, none⟩ l.length cap (byt l) (by rw [byt_len, hs, Nat.mul_one]) holds ⟨news.toArray⟩ (by rw [hsz]; omega) (by rw [hsz]; omega) (by rw [hb, hsz]; exact growslice_fits (by omega) (by omega))
      rw [hsz, byt_str] at hr
      have hge := grownCap_ge W (l.length + news.length) cap e
      have hgm := grownCap_le_maxLen W (l.length + news.length) cap e (by omega)
      refine ⟨_, _, hr, ?_, ⟨rfl, rfl, rfl, by simp, fun k hk _ => Below.heap_alloc W.drew _ k hk⟩, ⟨_, _, rfl⟩, fun k hk => by simp [Value.ownBlock] at hk; right; omega⟩
      have := BR.grow (e := e) (B := B) (w := W) (l := l) (news := news) (cap := grownCap W (l.length + news.length) cap e) (X := (Builtin.zeroCells (Value.int .u8 0).cells (grownCap W (l.length + news.length) cap e - (l.length + news.length))).toList) (W := W.drew) hB hge hgm (zc_len _) rfl
      simpa using this
variable {ops : Array Oper} {rest : List Oper} {o : Oper} {a : Act} {Q : Exit → Act → World → Prop}
theorem wpList_appB {W : World} (hgd : o.guard = none) (s x : Operand) (t : TypeId)
    (ho : o.op = .call { callee := .builtin .append, args := #[s, x], argTypes := #[t, t] })
    (e : TypeId) (i : TypeInfo) (ht : P.underlying t = some (.slice e)) (hi : P.info? e = some i) (hz : i.zero = some (.int .u8 0)) (hs : i.size = 1) (hb : i.bytes = 1)
    {B : Nat} {v : Value} {l : Bs} (news : Bs) (hv : a.eval s = v) (h : BR e B W v l) (hB : B ≤ W.heap.size) (g m c : Nat) (C : Array Value) (hx : a.eval x = .slice (some ⟨g, 0, none⟩) m c) (hg : W.heap[g]? = some (.cells C e (0, 0))) (hC : C.toList = byt news) (hm : m = news.length) (hbig : l.length + news.length ≤ 140737488355328)
    (k : ∀ ao' cap' W', BR e B W' (.slice ao' (l.length + news.length) cap') (l ++ news) → Upd (fun k => v.ownBlock = some k) W W' → Fresh W v (.slice ao' (l.length + news.length) cap') → wpList P ops Q rest (a.put o.dst (.slice ao' (l.length + news.length) cap')) W') : wpList P ops Q (o :: rest) a W :=
  wpList_plain hgd fun _ hK => by
    obtain ⟨v', W', hr, h2, h3, ⟨ao', cap', rfl⟩, h4⟩ := run_appB (P := P) t o.type e i ht hi hz hs hb h hB ⟨g, 0, none⟩ m c hm (fun j u hu => by rw [Addr.add_lit, Nat.zero_add, blk_cell hg]; rw [← hC] at hu; simpa using hu) hbig
    unfold Oper.wp execOp
    simp only [ho, resolve, invoke, builtin, Sem.run_bind, Sem.run_pure, Result.andThen_ok, List.map_toArray, List.map_cons, List.map_nil, hv, hx, hr]
    exact hK _ _ (k ao' cap' W' h2 h3 h4)
theorem wpList_appS {W : World} (hgd : o.guard = none) (s x : Operand) (t u : TypeId)
    (ho : o.op = .call { callee := .builtin .append, args := #[s, x], argTypes := #[t, u] })
    (e : TypeId) (i : TypeInfo) (ht : P.underlying t = some (.slice e)) (hu : P.underlying u = some .string) (hi : P.info? e = some i) (hz : i.zero = some (.int .u8 0)) (hs : i.size = 1) (hb : i.bytes = 1)
    {B : Nat} {v : Value} {l : Bs} (news : Bs) (hv : a.eval s = v) (h : BR e B W v l) (hB : B ≤ W.heap.size) (hx : a.eval x = .string ⟨news.toArray⟩) (hbig : l.length + news.length ≤ 140737488355328)
    (k : ∀ ao' cap' W', BR e B W' (.slice ao' (l.length + news.length) cap') (l ++ news) → Upd (fun k => v.ownBlock = some k) W W' → Fresh W v (.slice ao' (l.length + news.length) cap') → wpList P ops Q rest (a.put o.dst (.slice ao' (l.length + news.length) cap')) W') : wpList P ops Q (o :: rest) a W :=
  wpList_plain hgd fun _ hK => by
    obtain ⟨v', W', hr, h2, h3, ⟨ao', cap', rfl⟩, h4⟩ := run_appS (P := P) t u o.type e i ht hu hi hz hs hb h hB hbig
    unfold Oper.wp execOp
    simp only [ho, resolve, invoke, builtin, Sem.run_bind, Sem.run_pure, Result.andThen_ok, List.map_toArray, List.map_cons, List.map_nil, hv, hx, hr]
    exact hK _ _ (k ao' cap' W' h2 h3 h4)
/-- a string's bytes, in a slice of their own -/
theorem run_toB {W : World} (src dst e : TypeId) {u : TypeDesc} (l : Bs) (hs : P.underlying src = some u) (hd : P.underlying dst = some (.slice e)) (he : P.underlying e = some (.int .u8)) (hm : l.length ≤ maxLen) :
    ∃ cap W', (convert src dst (.string ⟨l.toArray⟩)).run P W = .ok (.slice (some ⟨W.heap.size, 0, none⟩) l.length cap) W' ∧ BR e W.heap.size W' (.slice (some ⟨W.heap.size, 0, none⟩) l.length cap) l ∧ Upd0 W W' ∧ W'.heap.size = W.heap.size + 1 := by
  have hr := Lib.run_convert_string_bytes (P := P) W src dst e ⟨l.toArray⟩ hs hd he
  have hsz : (⟨l.toArray⟩ : ByteArray).size = l.length := rfl
  have hge := grownCap_ge W l.length 0 e
  have hgm := grownCap_le_maxLen W l.length 0 e hm
  have hcs : (Lib.bytesCells W e ⟨l.toArray⟩).size = grownCap W l.length 0 e := by
    simp only [Lib.bytesCells, Array.size_append, Array.size_map, Array.size_replicate, hsz]
    simp; omega
  refine ⟨_, _, hr, .inr ⟨W.heap.size, _, _, _, rfl, Nat.le_refl _, Lib.bytesWorld_at_new _ _ _, .inr (by rw [hcs]; exact Nat.le_refl _), hge, hgm, hcs, ?_⟩, ⟨rfl, rfl, rfl, by rw [Lib.bytesWorld_size]; omega, fun k hk _ => Lib.bytesWorld_at_old _ _ _ _ hk⟩, Lib.bytesWorld_size _ _ _⟩
  simp only [Lib.bytesCells, Array.toList_append]
  rw [List.take_append_of_le_length (by simp), List.take_of_length_le (by simp)]
  simp [byt]
theorem wpList_toB {W : World} (hgd : o.guard = none) (x : Operand) (src dst : TypeId) (ho : o.op = .convert src dst x) (e : TypeId) {u : TypeDesc} (hs : P.underlying src = some u) (hd : P.underlying dst = some (.slice e)) (he : P.underlying e = some (.int .u8))
    (l : Bs) (hx : a.eval x = .string ⟨l.toArray⟩) (hm : l.length ≤ maxLen)
    (k : ∀ cap W', BR e W.heap.size W' (.slice (some ⟨W.heap.size, 0, none⟩) l.length cap) l → Upd0 W W' → W'.heap.size = W.heap.size + 1 → wpList P ops Q rest (a.put o.dst (.slice (some ⟨W.heap.size, 0, none⟩) l.length cap)) W') : wpList P ops Q (o :: rest) a W :=
  wpList_plain hgd fun _ hK => by
    obtain ⟨cap, W', hr, h1, h2, h3⟩ := run_toB (P := P) (W := W) src dst e l hs hd he hm
    unfold Oper.wp execOp
    simp only [ho, hx, Sem.run_bind, Sem.run_pure, Sem.run_map, hr, Result.andThen_ok, Oper.upon]
    exact hK _ _ (k cap W' h1 h2 h3)
theorem run_ofB {W : World} (src dst e : TypeId) (hs : P.underlying src = some (.slice e)) (he : P.underlying e = some (.int .u8)) (hd : P.underlying dst = some .string) {B : Nat} {v : Value} {l : Bs} (h : BR e B W v l) :
    (convert src dst v).run P W = .ok (.string ⟨l.toArray⟩) W := by
  rcases h with ⟨rfl, rfl⟩ | ⟨g, cap, cur, fz, rfl, hgB, hg, hz1, hnc, hcm, hcs, htk⟩
  · rw [run_convert_bytes_string W src dst e none 0 0 hs he hd]
    simp [Conv.bytesToString, Sem.run_pure]; rfl
  · refine run_convert_bytes_back W src dst e ⟨g, 0, none⟩ cap l hs he hd (fun j hj => ?_)
    have := byt_get hj
    rw [← htk, List.getElem?_take_of_lt hj] at this
    rw [Addr.add_lit, Nat.zero_add, blk_cell hg]; simpa using this
theorem wpList_ofB {W : World} (hgd : o.guard = none) (x : Operand) (src dst : TypeId) (ho : o.op = .convert src dst x) (e : TypeId) (hs : P.underlying src = some (.slice e)) (he : P.underlying e = some (.int .u8)) (hd : P.underlying dst = some .string)
    {B : Nat} {v : Value} {l : Bs} (hx : a.eval x = v) (h : BR e B W v l)
    (k : wpList P ops Q rest (a.put o.dst (.string ⟨l.toArray⟩)) W) : wpList P ops Q (o :: rest) a W :=
  wpList_plain hgd fun _ hK => by
    have hr := run_ofB (P := P) src dst e hs he hd h
    unfold Oper.wp execOp
    simp only [ho, hx, Sem.run_bind, Sem.run_pure, Sem.run_map, hr, Result.andThen_ok, Oper.upon]
    exact hK _ _ k
end
end Go.Proofs.Ytdjleplefbmjbaa
