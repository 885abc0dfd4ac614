/-
  strings.Builder.
-/
import Derived.Test.YtdjleplefbmjbaaBsh
import Derived.Test.YtdjleplefbmjbaaU8
namespace Go.Proofs.Ytdjleplefbmjbaa
open Go.RowKit
set_option linter.unusedSimpArgs false
set_option linter.unusedVariables false
abbrev BT : TypeId := 76
abbrev U8 : TypeId := 5
theorem bldInfo : (Try.prog.info? BT).map (·.size) = some 2 := by kernel_rfl
theorem bldLies : liesAt Try.prog Try.prog.depth BT (2 / Try.prog.cellsOf BT) 0 BT 1 = true := by kernel_rfl
set_option maxHeartbeats 1000000 in
set_option maxRecDepth 100000 in
theorem bldCheck_used (b : Nat) (w : World) (h0 : w.cell? ⟨b, 0, none⟩ = some (.pointer (some ⟨b, 0, none⟩))) :
    Calls Try.prog 69 #[.pointer (some ⟨b, 0, none⟩)] w fun e w' => e = .returned (.tuple #[]) ∧ w' = w := by
  obtain ⟨j, hj, _⟩ := Option.map_eq_some_iff.1 bldInfo
  go_enter Try.func69, Try.ntmps69
  go_wp2
  rw [Lib.run_neq_ptr_same w _ Try.underlying73 hj]
  go_wp2
  go_end0
  exact ⟨rfl, rfl⟩
set_option maxHeartbeats 1000000 in
set_option maxRecDepth 100000 in
theorem bldCheck_fresh (b : Nat) (w : World) (h0 : w.cell? ⟨b, 0, none⟩ = some (.pointer none)) (hsh : w.shape? b = some (BT, 2)) (hfz : w.frozen? ⟨b, 0, none⟩ = false) :
    Calls Try.prog 69 #[.pointer (some ⟨b, 0, none⟩)] w fun e w' => e = .returned (.tuple #[]) ∧ w' = w.setCell ⟨b, 0, none⟩ (.pointer (some ⟨b, 0, none⟩)) := by
  obtain ⟨j, hj, hjs⟩ := Option.map_eq_some_iff.1 bldInfo
  go_enter Try.func69, Try.ntmps69
  go_wp2
  rw [Lib.run_to_unsafe w ⟨b, 0, none⟩ Try.underlying73 Try.underlying122 hj (by rw [hjs]; decide) hsh (Nat.zero_lt_succ 1)]
  simp only [Result.andThen]
  rw [Oper.upon_value]
  go_wp2
  rw [run_callFunc_extern Try.func79 (by kernel_rfl) (by kernel_rfl) (by kernel_rfl) (e := Extern.AbiNoEscape.same) (by kernel_rfl)]
  rw [Lib.run_noEscape]
  simp only [Result.andThen]
  rw [Oper.upon_value]
  go_wp2
  rw [Lib.run_from_unsafe w ⟨b, 0, none⟩ Try.underlying122 Try.underlying73 hj hsh bldLies]
  simp only [Result.andThen]
  rw [Oper.upon_value]
  go_wp2
  go_end0
  exact ⟨rfl, rfl⟩
/-- the builder at b holds the bytes l -/
def Bld (B b : Nat) (l : Bs) (w : World) : Prop := Lib.IsBuilder BT U8 B b (byt l) w
theorem bldCheck_w (B b : Nat) (l : Bs) (w : World) (h : Bld B b l w) :
    Calls Try.prog 69 #[.pointer (some ⟨b, 0, none⟩)] w (Rets fun r w' => r = .tuple #[] ∧ Lib.BuilderAt BT U8 B b (.pointer (some ⟨b, 0, none⟩)) (byt l) w' ∧ Below B w w') := by
  rcases h with h | h
  · refine (bldCheck_fresh b w h.cell0 h.shape h.frozen0).mono ?_
    rintro e w' ⟨rfl, rfl⟩
    exact ⟨rfl, h.used _, (Below.refl B w).setCell (p := ⟨b, 0, none⟩) h.1 _⟩
  · refine (bldCheck_used b w h.cell0).mono ?_
    rintro e w' ⟨rfl, rfl⟩
    exact ⟨rfl, h, Below.refl B _⟩
theorem one_at (w : World) (x : Value) (t : TypeId) : ∀ (j : Nat) (u : Value), ([x] : List Value)[j]? = some u → (w.alloc (.cells #[x] t)).cell? ((⟨w.heap.size, 0, none⟩ : Addr).add j) = some u := by
  intro j u hj
  match j, hj with
  | 0, hj => simp at hj; subst hj; simp [Addr.add]
theorem one_cells (n : Nat) : ∀ u ∈ ([.int .u8 n] : List Value), u.oneCell' = true := by intro u hu; simp at hu; subst hu; rfl
theorem own_some {w : World} {B : Nat} {e : TypeId} {s : Nat} {v : Value} {n : Nat} {xs : List Value} (h : w.ownsRow B e s v (n + 1) xs) : ∃ g cap, v = .slice (some ⟨g, 0, none⟩) (n + 1) cap := by
  obtain ⟨ao, cap, rfl⟩ := ownsRow_slice h
  obtain ⟨g, rfl⟩ := ownsRow_some h (by omega)
  exact ⟨g, cap, rfl⟩
set_option maxHeartbeats 2000000 in
set_option maxRecDepth 100000 in
theorem bldByte_w (B b : Nat) (l : Bs) (c : UInt8) (w : World) (h : Bld B b l w) (hlen : l.length ≤ 1000000) (hBw : B ≤ w.heap.size) :
    Calls Try.prog 45 #[.pointer (some ⟨b, 0, none⟩), .int .u8 c.toNat] w (Rets fun r w' => r = .nilIface ∧ Bld B b (l ++ [c]) w' ∧ Below B w w') := by
  obtain ⟨i0, hi, hz0, hz1, hz2⟩ := info_parts info_u8
  go_enter Try.func45, Try.ntmps45
  go_wp2_with (first
    | (go_at_call 69; refine (bldCheck_w B b l _ h).use ?_; rintro r w1 ⟨rfl, h1, hb1⟩; obtain ⟨hB, v, hbk, hown, hne⟩ := h1; rw [byt_len] at hown; have c0 : w1.cell? ⟨b, 0, none⟩ = some (.pointer (some ⟨b, 0, none⟩)) := (by rw [Lib.cell_of_heap hbk]; rfl); have c1 : w1.cell? ⟨b, 1, none⟩ = some v := (by rw [Lib.cell_of_heap hbk]; rfl))
    | (at_builtin; refine wpList_append_own _ rfl _ _ 74 rfl B U8 i0 (.int .u8 0) 1 1 Try.underlying74 hi hz0 hz1 hz2 rfl (by decide) _ _ _ rfl (hown.alloc _) ⟨w1.heap.size, 0, none⟩ 1 1 [.int .u8 c.toNat] rfl rfl (one_at _ _ _) (one_cells _) (by unfold maxLen; omega) (by omega) (by have := hb1.size; simp; omega) ?_; intro v' w2 hown' hgrow hni; clear hni; have hlt : b < w1.heap.size := blk_lt hbk; have hb2 : w2.heap[b]? = some (.cells #[.pointer (some ⟨b, 0, none⟩), v] BT (0, 0)) := (by rw [hgrow.block b (by simp; omega) (fun e => hne e.symm), Lib.alloc_old w1 _ b hlt]; exact hbk); have d0 : w2.cell? ⟨b, 0, none⟩ = some (.pointer (some ⟨b, 0, none⟩)) := (by rw [Lib.cell_of_heap hb2]; rfl); have d1 : w2.cell? ⟨b, 1, none⟩ = some v := (by rw [Lib.cell_of_heap hb2]; rfl); have f1 : w2.frozen? ⟨b, 1, none⟩ = false := Lib.frozen_of_heap hb2 1; obtain ⟨g, cap, rfl⟩ := own_some hown')
    | fail)
  go_returns
  refine ⟨rfl, .inr ?_, ?_⟩
  · exact Lib.BuilderAt.put (T := BT) (e := U8) hB hb2 (bs' := byt (l ++ [c])) (by rw [byt_len, byt_app, List.length_append]; exact hown') (by decide)
  · exact ((hb1.alloc (by have := hb1.size; omega) _).grown hgrow (by have := hb1.size; simp; omega) (fun k hk => (hown.lt k hk).1)).setCell (p := ⟨b, 1, none⟩) hB _
set_option maxHeartbeats 2000000 in
set_option maxRecDepth 100000 in
theorem bldStr_w (B b : Nat) (l s : Bs) (w : World) (h : Bld B b l w) (hlen : l.length ≤ 1000000) (hs : s.length ≤ 1000000) (hBw : B ≤ w.heap.size) :
    Calls Try.prog 57 #[.pointer (some ⟨b, 0, none⟩), .string ⟨s.toArray⟩] w (Rets fun r w' => r = .tuple #[.int .i64 s.length, .nilIface] ∧ Bld B b (l ++ s) w' ∧ Below B w w') := by
  obtain ⟨i0, hi, hz0, hz1, hz2⟩ := info_parts info_u8
  have hsz : (⟨s.toArray⟩ : ByteArray).size = s.length := rfl
  go_enter Try.func57, Try.ntmps57
  go_wp2_with (first
    | (go_at_call 69; refine (bldCheck_w B b l _ h).use ?_; rintro r w1 ⟨rfl, h1, hb1⟩; obtain ⟨hB, v, hbk, hown, hne⟩ := h1; rw [byt_len] at hown; have c0 : w1.cell? ⟨b, 0, none⟩ = some (.pointer (some ⟨b, 0, none⟩)) := (by rw [Lib.cell_of_heap hbk]; rfl); have c1 : w1.cell? ⟨b, 1, none⟩ = some v := (by rw [Lib.cell_of_heap hbk]; rfl))
    | (at_builtin; refine Lib.wpList_append_own_string _ rfl _ _ 74 9 rfl B U8 i0 Try.underlying74 Try.underlying9 hi hz0 hz1 hz2 _ _ _ rfl hown ⟨s.toArray⟩ rfl (by unfold maxLen; rw [hsz]; omega) (by rw [hsz]; omega) (by have := hb1.size; omega) ?_; intro v' w2 hown' hgrow hni; clear hni; have hlt : b < w1.heap.size := blk_lt hbk; have hb2 : w2.heap[b]? = some (.cells #[.pointer (some ⟨b, 0, none⟩), v] BT (0, 0)) := (by rw [hgrow.block b hlt (fun e => hne e.symm)]; exact hbk); have d0 : w2.cell? ⟨b, 0, none⟩ = some (.pointer (some ⟨b, 0, none⟩)) := (by rw [Lib.cell_of_heap hb2]; rfl); have d1 : w2.cell? ⟨b, 1, none⟩ = some v := (by rw [Lib.cell_of_heap hb2]; rfl); have f1 : w2.frozen? ⟨b, 1, none⟩ = false := Lib.frozen_of_heap hb2 1; obtain ⟨ao, cap, rfl⟩ := ownsRow_slice hown')
    | fail)
  go_returns
  refine ⟨rfl, .inr ?_, ?_⟩
  · exact Lib.BuilderAt.put (T := BT) (e := U8) hB hb2 (bs' := byt (l ++ s)) (by rw [byt_len, byt_app, List.length_append, ← byt_str]; exact hown') (by decide)
  · exact (hb1.grown hgrow (by have := hb1.size; omega) (fun k hk => (hown.lt k hk).1)).setCell (p := ⟨b, 1, none⟩) hB _
theorem bldLen_w (B b : Nat) (l : Bs) (w : World) (h : Bld B b l w) :
    Calls Try.prog 56 #[.pointer (some ⟨b, 0, none⟩)] w (Rets fun r w' => r = .int .i64 l.length ∧ w = w') := by
  refine (Try.Builder_Len B b (byt l) w h).mono ?_
  rintro e w' ⟨rfl, rfl⟩
  exact ⟨by rw [byt_len], rfl⟩
theorem bldString_w (B b : Nat) (l : Bs) (w : World) (h : Bld B b l w) (hBw : B ≤ w.heap.size) :
    Calls Try.prog 46 #[.pointer (some ⟨b, 0, none⟩)] w (Rets fun r w' => r = .string ⟨l.toArray⟩ ∧ Below B w w') := by
  refine (Try.Builder_String_any B b l w h hBw).mono ?_
  rintro e w' ⟨rfl, hb⟩
  exact ⟨rfl, hb⟩
theorem bld_new (w : World) : Bld w.heap.size w.heap.size [] (w.alloc (.cells #[.pointer none, .slice none 0 0] BT)) := Lib.fresh_isBuilder BT U8 w
end Go.Proofs.Ytdjleplefbmjbaa
