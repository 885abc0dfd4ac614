/-
  Folding, plainly: large letters made small; what labels joined are; a name's labels folded and joined.
  A text with small letters: the program's, the document's.
  strings.Builder.
  The name of labels: the program's Join.
  The name of labels: the document's Join.
  A name folded: the program's, the document's.
  Orders, plainly: bytes, texts, lists of labels, names; what stands between two names under a name.
  A name's text, plainly: printed, parsed; the program's reading and the document's tell the same.
-/
import Derived.Test.YtijmbpokglohbaaKa
import Derived.Test.YtijmbpokglohbaaKc
import Derived.Test.YtijmbpokglohbaaBsh
import Derived.Test.YtijmbpokglohbaaKb
import GoSem.Op.String
namespace Go.Proofs.Ytijmbpokglohbaa
set_option linter.unusedSimpArgs false
set_option linter.unusedVariables false
def big (c : UInt8) : Bool := decide (65 ≤ c.toNat) && decide (c.toNat ≤ 90)
def sm1 (c : UInt8) : UInt8 := if big c then c + 32 else c
def smS (s : Bs) : Bs := s.map sm1
theorem big_iff {c : UInt8} : big c = true ↔ 65 ≤ c.toNat ∧ c.toNat ≤ 90 := by simp [big]
theorem sm1_big {c : UInt8} (h : big c = true) : (sm1 c).toNat = c.toNat + 32 := by
  have := big_iff.1 h
  rw [sm1, if_pos h, UInt8.toNat_add]; show (c.toNat + 32) % 256 = _; omega
theorem sm1_no {c : UInt8} (h : big c = false) : sm1 c = c := by rw [sm1, h]; rfl
theorem sm1_low {c : UInt8} (h : c.toNat ≤ 63) : sm1 c = c := by
  apply sm1_no
  cases hb : big c
  · rfl
  · have := (big_iff.1 hb).1; omega
theorem sm1_sm1 (c : UInt8) : sm1 (sm1 c) = sm1 c := by
  cases h : big c
  · rw [sm1_no h, sm1_no h]
  · apply sm1_no
    have h1 := sm1_big h
    have h2 := big_iff.1 h
    cases h3 : big (sm1 c)
    · rfl
    · have := (big_iff.1 h3).2; omega
theorem smS_len (s : Bs) : (smS s).length = s.length := by simp [smS]
theorem smS_smS (s : Bs) : smS (smS s) = smS s := by simp [smS, sm1_sm1]
theorem smS_app (a b : Bs) : smS (a ++ b) = smS a ++ smS b := by simp [smS]
/-- half folded: the first k bytes -/
def smH (s : Bs) (k : Nat) : Bs := smS (s.take k) ++ s.drop k
theorem smH_zero (s : Bs) : smH s 0 = s := by simp [smH, smS]
theorem smH_len (s : Bs) (k : Nat) : (smH s k).length = s.length := by simp [smH, smS]; omega
theorem smH_all (s : Bs) {k : Nat} (h : s.length ≤ k) : smH s k = smS s := by simp [smH, List.take_of_length_le h, List.drop_of_length_le h]
theorem smH_get (s : Bs) {k : Nat} (h : k < s.length) : (smH s k)[k]'(by rw [smH_len]; exact h) = s[k] := by
  have hl : (smS (s.take k)).length = k := by rw [smS_len]; simp; omega
  simp only [smH]
  rw [List.getElem_append_right (by omega)]
  simp [hl]
theorem smH_step (s : Bs) {k : Nat} (h : k < s.length) : (smH s k).set k (sm1 s[k]) = smH s (k + 1) := by
  have hl : (smS (s.take k)).length = k := by rw [smS_len]; simp; omega
  simp only [smH]
  rw [List.set_append_right _ _ (by omega), hl, Nat.sub_self, List.drop_eq_getElem_cons h, List.set_cons_zero, List.take_succ_eq_append_getElem h, smS_app]
  simp [smS]
theorem smH_keep (s : Bs) {k : Nat} (h : k < s.length) (hb : big s[k] = false) : smH s k = smH s (k + 1) := by
  rw [← smH_step s h, sm1_no hb]
  have h' : k < (smH s k).length := by rw [smH_len]; exact h
  have e := smH_get s h
  rw [← e, List.set_getElem_self]
/-- labels, one behind the other, each with its length ahead -/
def jn (l : List Bs) : Bs := l.flatMap fun x => UInt8.ofNat x.length :: x
def lblOk (x : Bs) : Bool := decide (1 ≤ x.length) && decide (x.length ≤ 63)
theorem jn_nil : jn [] = [] := rfl
theorem jn_cons (x : Bs) (l : List Bs) : jn (x :: l) = UInt8.ofNat x.length :: (x ++ jn l) := rfl
theorem jn_app (a b : List Bs) : jn (a ++ b) = jn a ++ jn b := by simp [jn]
theorem jn_one (x : Bs) : jn [x] = UInt8.ofNat x.length :: x := by simp [jn]
theorem jn_snoc (l : List Bs) (x : Bs) : jn (l ++ [x]) = jn l ++ (UInt8.ofNat x.length :: x) := by rw [jn_app, jn_one]
theorem lblOk_iff {x : Bs} : lblOk x = true ↔ 1 ≤ x.length ∧ x.length ≤ 63 := by simp [lblOk]
/-- a name's labels, joined, are the name; each is a label -/
theorem lab_jn : ∀ s : Bs, ∀ l, lab s = some l → jn l = s ∧ l.all lblOk = true := by
  apply lab_ind (P := fun s => ∀ l, lab s = some l → jn l = s ∧ l.all lblOk = true)
  · intro l h; cases h; exact ⟨rfl, rfl⟩
  · intro k t hok ih l h
    rw [lab_cons, if_pos hok] at h
    obtain ⟨h1, h2, h3⟩ := okL_iff.1 hok
    cases hl : lab (t.drop k.toNat) with
    | none => rw [hl] at h; cases h
    | some m =>
      rw [hl] at h; simp only [Option.map_some, Option.some.injEq] at h; subst h
      obtain ⟨i1, i2⟩ := ih m hl
      have hlen : (t.take k.toNat).length = k.toNat := by simp; omega
      refine ⟨?_, ?_⟩
      · rw [jn_cons, i1, hlen, UInt8.ofNat_toNat, List.take_append_drop]
      · rw [List.all_cons, i2, Bool.and_true, lblOk_iff, hlen]; exact ⟨h1, h2⟩
  · intro k t hok l h
    rw [lab_cons, if_neg (by rw [hok]; decide)] at h; cases h
/-- labels joined are cut into themselves -/
theorem jn_lab : ∀ l : List Bs, l.all lblOk = true → lab (jn l) = some l
  | [], _ => rfl
  | x :: l, h => by
    rw [List.all_cons, Bool.and_eq_true] at h
    obtain ⟨h1, h2⟩ := lblOk_iff.1 h.1
    have hk : (UInt8.ofNat x.length).toNat = x.length := by rw [UInt8.toNat_ofNat']; omega
    rw [jn_cons, lab_cons, if_pos (okL_iff.2 (by rw [hk]; simp; omega)), hk, List.drop_left, List.take_left, jn_lab l h.2]; rfl
theorem jn_smS : ∀ l : List Bs, l.all lblOk = true → jn (l.map smS) = smS (jn l)
  | [], _ => rfl
  | x :: l, h => by
    rw [List.all_cons, Bool.and_eq_true] at h
    obtain ⟨h1, h2⟩ := lblOk_iff.1 h.1
    have hk : (UInt8.ofNat x.length).toNat = x.length := by rw [UInt8.toNat_ofNat']; omega
    rw [List.map_cons, jn_cons, jn_cons, jn_smS l h.2, smS_len]
    simp only [smS, List.map_cons, List.map_append]
    rw [sm1_low (by omega)]
theorem smS_lbls (l : List Bs) (h : l.all lblOk = true) : (l.map smS).all lblOk = true := by
  rw [List.all_map]
  rw [List.all_eq_true] at h ⊢
  intro x hx
  have := lblOk_iff.1 (h x hx)
  exact lblOk_iff.2 (by rw [smS_len]; exact this)
theorem lbls_len : ∀ l : List Bs, l.all lblOk = true → l.length * 2 ≤ (jn l).length
  | [], _ => Nat.le_refl _
  | x :: l, h => by
    rw [List.all_cons, Bool.and_eq_true] at h
    have := lbls_len l h.2
    have := (lblOk_iff.1 h.1).1
    rw [jn_cons]; simp only [List.length_cons, List.length_append]; omega
/-- what Join says -/
def jnB (l : List Bs) : Bool := l.all lblOk && decide ((jn l).length ≤ 254)
def jnS (l : List Bs) : Bs := if jnB l then jn l else []
def jnC (l : List Bs) : Int := if jnB l then 0 else 1
/-- what a name is folded -/
def fold (s : Bs) : Bs := if cutB s then smS s else s
theorem cut_lab {s : Bs} (h : cutB s = true) : s.length ≤ 254 ∧ lab s = some (cutL s) := by
  unfold cutB cutO at h
  by_cases hs : 254 < s.length
  · rw [if_pos hs] at h; cases h
  · rw [if_neg hs] at h
    refine ⟨by omega, ?_⟩
    unfold cutL cutO
    rw [if_neg hs]
    cases hl : lab s with
    | none => rw [hl] at h; cases h
    | some l => rfl
theorem fold_join {s : Bs} (h : cutB s = true) : jnB ((cutL s).map smS) = true ∧ jnS ((cutL s).map smS) = fold s := by
  obtain ⟨h1, h2⟩ := cut_lab h
  obtain ⟨h3, h4⟩ := lab_jn s _ h2
  have hj : jn ((cutL s).map smS) = smS s := by rw [jn_smS _ h4, h3]
  have hB : jnB ((cutL s).map smS) = true := by rw [jnB, smS_lbls _ h4, hj, smS_len, decide_eq_true h1]; rfl
  exact ⟨hB, by rw [jnS, hB, fold, h, hj]; rfl⟩
theorem fold_no {s : Bs} (h : cutB s = false) : fold s = s := by rw [fold, h]; rfl
end Go.Proofs.Ytijmbpokglohbaa

namespace Go.Proofs.Ytijmbpokglohbaa
open Go.RowKit
set_option linter.unusedSimpArgs false
set_option linter.unusedVariables false
set_option maxRecDepth 100000 in
theorem small_w (s : Bs) (hm : s.length ≤ 70000) (w : World) : Calls Try.prog 87 #[.string ⟨s.toArray⟩] w (Rets fun r w' => r = .string ⟨(smS s).toArray⟩ ∧ Upd0 w w') := by
  go_enter Try.func87, Try.ntmps87
  go_wp2_with (first
    | (refine wpList_toB rfl (.tmp 6) 9 95 rfl 5 Try.underlying9 Try.underlying95 Try.underlying5 s rfl (by unfold maxLen; omega) ?_; intro cap w1 hb1 hu1 hz1; have hb1h := Lib.hid hb1; clear hb1)
    | (with_reducible refine wp_serial (by kernel_rfl) (by kernel_rfl) (by repeat with_reducible (first | apply NoBad.then | apply NoBad.inBlock | apply NoBad.jump | exact NoBad.rets)) ?_) | fail)
  go_loopw [10] (fun i wr => ∃ k : Nat, k ≤ s.length ∧ i = .int .i64 k ∧ Upd0 w wr ∧ Hid (BR 5 w.heap.size wr (.slice (some ⟨w.heap.size, 0, none⟩) s.length cap) (smH s k))) (fun i _ => s.length - (intOf i).toNat)
  case atStart => exact ⟨0, Nat.zero_le _, rfl, hu1, Lib.hid (by rw [smH_zero]; exact hb1h.out)⟩
  case round =>
    obtain ⟨k, hk, rfl, hu, hb⟩ := hrel
    by_cases hlt : k < s.length
    · have hc := hb.out.cell (i := k) (by rw [smH_len]; exact hlt)
      have hf := hb.out.frz (i := k) (by rw [smH_len]; exact hlt)
      rw [smH_get s hlt] at hc
      cases hg : big s[k] with
      | true =>
        obtain ⟨g1, g2⟩ := big_iff.1 hg
        have hv := Lib.hid (show Value.int .u8 ((s[k].toNat : Int) - 65 + 97) = .int .u8 (sm1 s[k]).toNat by rw [sm1_big hg]; congr 1; omega)
        clear hg
        go_wp2_with (first | (with_reducible refine wp_serial (by kernel_rfl) (by kernel_rfl) (by repeat with_reducible (first | apply NoBad.then | apply NoBad.inBlock | apply NoBad.jump | exact NoBad.rets)) ?_) | fail)
        rw [hv.out]
        go_roundw
        case rel => exact ⟨k + 1, by omega, by go_num, (hu.setCell (fun h => absurd h (by simp)) _), Lib.hid (by have h2 := hb.out.setAt (i := k) (sm1 s[k]); rw [smH_step s hlt] at h2; exact h2)⟩
        case measure => simp [intOf]; omega
      | false =>
        have hg2 : ¬ (65 ≤ s[k].toNat ∧ s[k].toNat ≤ 90) := fun h => by rw [big_iff.2 h] at hg; cases hg
        have hgg : s[k].toNat < 65 ∨ (65 ≤ s[k].toNat ∧ 90 < s[k].toNat) := by omega
        have hgh := Lib.hid hg
        clear hg hg2
        rcases hgg with g1 | ⟨g1, g2⟩
        all_goals
          go_wp2_with (first | (with_reducible refine wp_serial (by kernel_rfl) (by kernel_rfl) (by repeat with_reducible (first | apply NoBad.then | apply NoBad.inBlock | apply NoBad.jump | exact NoBad.rets)) ?_) | fail)
          go_roundw
          case rel => exact ⟨k + 1, by omega, by go_num, hu, Lib.hid (by rw [← smH_keep s hlt hgh.out]; exact hb.out)⟩
          case measure => simp [intOf]; omega
    · go_wp2_with (first
        | (refine wpList_ofB rfl (.tmp 28) 95 9 rfl 5 Try.underlying95 Try.underlying5 Try.underlying9 rfl hb.out ?_)
        | (with_reducible refine wp_serial (by kernel_rfl) (by kernel_rfl) (by repeat with_reducible (first | apply NoBad.then | apply NoBad.inBlock | apply NoBad.jump | exact NoBad.rets)) ?_) | fail)
      go_returns
      exact ⟨by rw [smH_all s (by omega)]; rfl, hu⟩
set_option maxRecDepth 100000 in
theorem rsmall_w (s : Bs) (hm : s.length ≤ 70000) (w : World) : Calls Try.prog 56 #[.string ⟨s.toArray⟩] w (Rets fun r w' => r = .string ⟨(smS s).toArray⟩ ∧ Upd0 w w') := by
  go_enter Try.func56, Try.ntmps56
  go_wp2_with (first
    | (refine wpList_toB rfl (.tmp 5) 9 95 rfl 5 Try.underlying9 Try.underlying95 Try.underlying5 s rfl (by unfold maxLen; omega) ?_; intro cap w1 hb1 hu1 hz1; have hb1h := Lib.hid hb1; clear hb1)
    | (with_reducible refine wp_serial (by kernel_rfl) (by kernel_rfl) (by repeat with_reducible (first | apply NoBad.then | apply NoBad.inBlock | apply NoBad.jump | exact NoBad.rets)) ?_) | fail)
  go_loopw [4] (fun i wr => ∃ k : Nat, k ≤ s.length ∧ i = .int .i64 k ∧ Upd0 w wr ∧ Hid (BR 5 w.heap.size wr (.slice (some ⟨w.heap.size, 0, none⟩) s.length cap) (smH s k))) (fun i _ => s.length - (intOf i).toNat)
  case atStart => exact ⟨0, Nat.zero_le _, rfl, hu1, Lib.hid (by rw [smH_zero]; exact hb1h.out)⟩
  case round =>
    obtain ⟨k, hk, rfl, hu, hb⟩ := hrel
    by_cases hlt : k < s.length
    · have hc := hb.out.cell (i := k) (by rw [smH_len]; exact hlt)
      have hf := hb.out.frz (i := k) (by rw [smH_len]; exact hlt)
      rw [smH_get s hlt] at hc
      cases hg : big s[k] with
      | true =>
        obtain ⟨g1, g2⟩ := big_iff.1 hg
        have hv := Lib.hid (show Value.int .u8 ((s[k].toNat : Int) + 32) = .int .u8 (sm1 s[k]).toNat by rw [sm1_big hg]; congr 1)
        clear hg
        go_wp2_with (first | (with_reducible refine wp_serial (by kernel_rfl) (by kernel_rfl) (by repeat with_reducible (first | apply NoBad.then | apply NoBad.inBlock | apply NoBad.jump | exact NoBad.rets)) ?_) | fail)
        rw [hv.out]
        go_roundw
        case rel => exact ⟨k + 1, by omega, by go_num, (hu.setCell (fun h => absurd h (by simp)) _), Lib.hid (by have h2 := hb.out.setAt (i := k) (sm1 s[k]); rw [smH_step s hlt] at h2; exact h2)⟩
        case measure => simp [intOf]; omega
      | false =>
        have hg2 : ¬ (65 ≤ s[k].toNat ∧ s[k].toNat ≤ 90) := fun h => by rw [big_iff.2 h] at hg; cases hg
        have hgg : s[k].toNat < 65 ∨ (65 ≤ s[k].toNat ∧ 90 < s[k].toNat) := by omega
        have hgh := Lib.hid hg
        clear hg hg2
        rcases hgg with g1 | ⟨g1, g2⟩
        all_goals
          go_wp2_with (first | (with_reducible refine wp_serial (by kernel_rfl) (by kernel_rfl) (by repeat with_reducible (first | apply NoBad.then | apply NoBad.inBlock | apply NoBad.jump | exact NoBad.rets)) ?_) | fail)
          go_roundw
          case rel => exact ⟨k + 1, by omega, by go_num, hu, Lib.hid (by rw [← smH_keep s hlt hgh.out]; exact hb.out)⟩
          case measure => simp [intOf]; omega
    · go_wp2_with (first
        | (refine wpList_ofB rfl (.tmp 33) 95 9 rfl 5 Try.underlying95 Try.underlying5 Try.underlying9 rfl hb.out ?_)
        | (with_reducible refine wp_serial (by kernel_rfl) (by kernel_rfl) (by repeat with_reducible (first | apply NoBad.then | apply NoBad.inBlock | apply NoBad.jump | exact NoBad.rets)) ?_) | fail)
      go_returns
      exact ⟨by rw [smH_all s (by omega)]; rfl, hu⟩
end Go.Proofs.Ytijmbpokglohbaa

namespace Go.Proofs.Ytijmbpokglohbaa
open Go.RowKit
set_option linter.unusedSimpArgs false
set_option linter.unusedVariables false
abbrev BT : TypeId := 141
abbrev U8 : TypeId := 5
theorem bldInfo : (Try.prog.info? BT).map (·.size) = some 2 := by kernel_rfl
theorem bldLies : liesAt Try.prog Try.prog.depth BT (2 / Try.prog.cellsOf BT) 0 BT 1 = true := by kernel_rfl
set_option maxHeartbeats 1000000 in
set_option maxRecDepth 100000 in
theorem bldCheck_used (b : Nat) (w : World) (h0 : w.cell? ⟨b, 0, none⟩ = some (.pointer (some ⟨b, 0, none⟩))) :
    Calls Try.prog 119 #[.pointer (some ⟨b, 0, none⟩)] w fun e w' => e = .returned (.tuple #[]) ∧ w' = w := by
  obtain ⟨j, hj, _⟩ := Option.map_eq_some_iff.1 bldInfo
  go_enter Try.func119, Try.ntmps119
  go_wp2
  rw [Lib.run_neq_ptr_same w _ Try.underlying139 hj]
  go_wp2
  go_end0
  exact ⟨rfl, rfl⟩
set_option maxHeartbeats 1000000 in
set_option maxRecDepth 100000 in
theorem bldCheck_fresh (b : Nat) (w : World) (h0 : w.cell? ⟨b, 0, none⟩ = some (.pointer none)) (hsh : w.shape? b = some (BT, 2)) (hfz : w.frozen? ⟨b, 0, none⟩ = false) :
    Calls Try.prog 119 #[.pointer (some ⟨b, 0, none⟩)] w fun e w' => e = .returned (.tuple #[]) ∧ w' = w.setCell ⟨b, 0, none⟩ (.pointer (some ⟨b, 0, none⟩)) := by
  obtain ⟨j, hj, hjs⟩ := Option.map_eq_some_iff.1 bldInfo
  go_enter Try.func119, Try.ntmps119
  go_wp2
  rw [Lib.run_to_unsafe w ⟨b, 0, none⟩ Try.underlying139 Try.underlying166 hj (by rw [hjs]; decide) hsh (Nat.zero_lt_succ 1)]
  simp only [Result.andThen]
  rw [Oper.upon_value]
  go_wp2
  rw [run_callFunc_extern Try.func127 (by kernel_rfl) (by kernel_rfl) (by kernel_rfl) (e := Extern.AbiNoEscape.same) (by kernel_rfl)]
  rw [Lib.run_noEscape]
  simp only [Result.andThen]
  rw [Oper.upon_value]
  go_wp2
  rw [Lib.run_from_unsafe w ⟨b, 0, none⟩ Try.underlying166 Try.underlying139 hj hsh bldLies]
  simp only [Result.andThen]
  rw [Oper.upon_value]
  go_wp2
  go_end0
  exact ⟨rfl, rfl⟩
/-- the builder at b holds the bytes l -/
def Bld (B b : Nat) (l : Bs) (w : World) : Prop := Lib.IsBuilder BT U8 B b (byt l) w
theorem bldCheck_w (B b : Nat) (l : Bs) (w : World) (h : Bld B b l w) :
    Calls Try.prog 119 #[.pointer (some ⟨b, 0, none⟩)] w (Rets fun r w' => r = .tuple #[] ∧ Lib.BuilderAt BT U8 B b (.pointer (some ⟨b, 0, none⟩)) (byt l) w' ∧ Below B w w') := by
  rcases h with h | h
  · refine (bldCheck_fresh b w h.cell0 h.shape h.frozen0).mono ?_
    rintro e w' ⟨rfl, rfl⟩
    exact ⟨rfl, h.used _, (Below.refl B w).setCell (p := ⟨b, 0, none⟩) h.1 _⟩
  · refine (bldCheck_used b w h.cell0).mono ?_
    rintro e w' ⟨rfl, rfl⟩
    exact ⟨rfl, h, Below.refl B _⟩
theorem one_at (w : World) (x : Value) (t : TypeId) : ∀ (j : Nat) (u : Value), ([x] : List Value)[j]? = some u → (w.alloc (.cells #[x] t)).cell? ((⟨w.heap.size, 0, none⟩ : Addr).add j) = some u := by
  intro j u hj
  match j, hj with
  | 0, hj => simp at hj; subst hj; simp [Addr.add]
theorem one_cells (n : Nat) : ∀ u ∈ ([.int .u8 n] : List Value), u.oneCell' = true := by intro u hu; simp at hu; subst hu; rfl
theorem own_some {w : World} {B : Nat} {e : TypeId} {s : Nat} {v : Value} {n : Nat} {xs : List Value} (h : w.ownsRow B e s v (n + 1) xs) : ∃ g cap, v = .slice (some ⟨g, 0, none⟩) (n + 1) cap := by
  obtain ⟨ao, cap, rfl⟩ := ownsRow_slice h
  obtain ⟨g, rfl⟩ := ownsRow_some h (by omega)
  exact ⟨g, cap, rfl⟩
set_option maxHeartbeats 2000000 in
set_option maxRecDepth 100000 in
theorem bldByte_w (B b : Nat) (l : Bs) (c : UInt8) (w : World) (h : Bld B b l w) (hlen : l.length ≤ 1000000) (hBw : B ≤ w.heap.size) :
    Calls Try.prog 104 #[.pointer (some ⟨b, 0, none⟩), .int .u8 c.toNat] w (Rets fun r w' => r = .nilIface ∧ Bld B b (l ++ [c]) w' ∧ Below B w w') := by
  obtain ⟨i0, hi, hz0, hz1, hz2⟩ := info_parts info_u8
  go_enter Try.func104, Try.ntmps104
  go_wp2_with (first
    | (go_at_call 119; refine (bldCheck_w B b l _ h).use ?_; rintro r w1 ⟨rfl, h1, hb1⟩; obtain ⟨hB, v, hbk, hown, hne⟩ := h1; rw [byt_len] at hown; have c0 : w1.cell? ⟨b, 0, none⟩ = some (.pointer (some ⟨b, 0, none⟩)) := (by rw [Lib.cell_of_heap hbk]; rfl); have c1 : w1.cell? ⟨b, 1, none⟩ = some v := (by rw [Lib.cell_of_heap hbk]; rfl))
    | (at_builtin; refine wpList_append_own _ rfl _ _ 95 rfl B U8 i0 (.int .u8 0) 1 1 Try.underlying95 hi hz0 hz1 hz2 rfl (by decide) _ _ _ rfl (hown.alloc _) ⟨w1.heap.size, 0, none⟩ 1 1 [.int .u8 c.toNat] rfl rfl (one_at _ _ _) (one_cells _) (by unfold maxLen; omega) (by omega) (by have := hb1.size; simp; omega) ?_; intro v' w2 hown' hgrow hni; clear hni; have hlt : b < w1.heap.size := blk_lt hbk; have hb2 : w2.heap[b]? = some (.cells #[.pointer (some ⟨b, 0, none⟩), v] BT (0, 0)) := (by rw [hgrow.block b (by simp; omega) (fun e => hne e.symm), Lib.alloc_old w1 _ b hlt]; exact hbk); have d0 : w2.cell? ⟨b, 0, none⟩ = some (.pointer (some ⟨b, 0, none⟩)) := (by rw [Lib.cell_of_heap hb2]; rfl); have d1 : w2.cell? ⟨b, 1, none⟩ = some v := (by rw [Lib.cell_of_heap hb2]; rfl); have f1 : w2.frozen? ⟨b, 1, none⟩ = false := Lib.frozen_of_heap hb2 1; obtain ⟨g, cap, rfl⟩ := own_some hown')
    | fail)
  go_returns
  refine ⟨rfl, .inr ?_, ?_⟩
  · exact Lib.BuilderAt.put (T := BT) (e := U8) hB hb2 (bs' := byt (l ++ [c])) (by rw [byt_len, byt_app, List.length_append]; exact hown') (by decide)
  · exact ((hb1.alloc (by have := hb1.size; omega) _).grown hgrow (by have := hb1.size; simp; omega) (fun k hk => (hown.lt k hk).1)).setCell (p := ⟨b, 1, none⟩) hB _
set_option maxHeartbeats 2000000 in
set_option maxRecDepth 100000 in
theorem bldStr_w (B b : Nat) (l s : Bs) (w : World) (h : Bld B b l w) (hlen : l.length ≤ 1000000) (hs : s.length ≤ 1000000) (hBw : B ≤ w.heap.size) :
    Calls Try.prog 105 #[.pointer (some ⟨b, 0, none⟩), .string ⟨s.toArray⟩] w (Rets fun r w' => r = .tuple #[.int .i64 s.length, .nilIface] ∧ Bld B b (l ++ s) w' ∧ Below B w w') := by
  obtain ⟨i0, hi, hz0, hz1, hz2⟩ := info_parts info_u8
  have hsz : (⟨s.toArray⟩ : ByteArray).size = s.length := rfl
  go_enter Try.func105, Try.ntmps105
  go_wp2_with (first
    | (go_at_call 119; refine (bldCheck_w B b l _ h).use ?_; rintro r w1 ⟨rfl, h1, hb1⟩; obtain ⟨hB, v, hbk, hown, hne⟩ := h1; rw [byt_len] at hown; have c0 : w1.cell? ⟨b, 0, none⟩ = some (.pointer (some ⟨b, 0, none⟩)) := (by rw [Lib.cell_of_heap hbk]; rfl); have c1 : w1.cell? ⟨b, 1, none⟩ = some v := (by rw [Lib.cell_of_heap hbk]; rfl))
    | (at_builtin; refine Lib.wpList_append_own_string _ rfl _ _ 95 9 rfl B U8 i0 Try.underlying95 Try.underlying9 hi hz0 hz1 hz2 _ _ _ rfl hown ⟨s.toArray⟩ rfl (by unfold maxLen; rw [hsz]; omega) (by rw [hsz]; omega) (by have := hb1.size; omega) ?_; intro v' w2 hown' hgrow hni; clear hni; have hlt : b < w1.heap.size := blk_lt hbk; have hb2 : w2.heap[b]? = some (.cells #[.pointer (some ⟨b, 0, none⟩), v] BT (0, 0)) := (by rw [hgrow.block b hlt (fun e => hne e.symm)]; exact hbk); have d0 : w2.cell? ⟨b, 0, none⟩ = some (.pointer (some ⟨b, 0, none⟩)) := (by rw [Lib.cell_of_heap hb2]; rfl); have d1 : w2.cell? ⟨b, 1, none⟩ = some v := (by rw [Lib.cell_of_heap hb2]; rfl); have f1 : w2.frozen? ⟨b, 1, none⟩ = false := Lib.frozen_of_heap hb2 1; obtain ⟨ao, cap, rfl⟩ := ownsRow_slice hown')
    | fail)
  go_returns
  refine ⟨rfl, .inr ?_, ?_⟩
  · exact Lib.BuilderAt.put (T := BT) (e := U8) hB hb2 (bs' := byt (l ++ s)) (by rw [byt_len, byt_app, List.length_append, ← byt_str]; exact hown') (by decide)
  · exact (hb1.grown hgrow (by have := hb1.size; omega) (fun k hk => (hown.lt k hk).1)).setCell (p := ⟨b, 1, none⟩) hB _
theorem bldLen_w (B b : Nat) (l : Bs) (w : World) (h : Bld B b l w) :
    Calls Try.prog 103 #[.pointer (some ⟨b, 0, none⟩)] w (Rets fun r w' => r = .int .i64 l.length ∧ w = w') := by
  refine (Try.Builder_Len B b (byt l) w h).mono ?_
  rintro e w' ⟨rfl, rfl⟩
  exact ⟨by rw [byt_len], rfl⟩
theorem bldString_w (B b : Nat) (l : Bs) (w : World) (h : Bld B b l w) (hBw : B ≤ w.heap.size) :
    Calls Try.prog 106 #[.pointer (some ⟨b, 0, none⟩)] w (Rets fun r w' => r = .string ⟨l.toArray⟩ ∧ Below B w w') := by
  refine (Try.Builder_String_any B b l w h hBw).mono ?_
  rintro e w' ⟨rfl, hb⟩
  exact ⟨rfl, hb⟩
theorem bld_new (w : World) : Bld w.heap.size w.heap.size [] (w.alloc (.cells #[.pointer none, .slice none 0 0] BT)) := Lib.fresh_isBuilder BT U8 w
end Go.Proofs.Ytijmbpokglohbaa

namespace Go.Proofs.Ytijmbpokglohbaa
open Go.RowKit
set_option linter.unusedSimpArgs false
set_option linter.unusedVariables false
/-- the slice at ao reads as these strings -/
def SR (w : World) (ao : Option Addr) (L : List Bs) : Prop := L = [] ∨ ∃ g o, ao = some ⟨g, o, none⟩ ∧ g < w.heap.size ∧ ∀ (i : Nat) x, L[i]? = some x → w.cell? ⟨g, o + i, none⟩ = some (.string ⟨x.toArray⟩)
theorem SR.some {w : World} {ao : Option Addr} {L : List Bs} (h : SR w ao L) {k : Nat} (hk : k < L.length) : ∃ g o, ao = some ⟨g, o, none⟩ ∧ g < w.heap.size ∧ ∀ (i : Nat) x, L[i]? = some x → w.cell? ⟨g, o + i, none⟩ = some (.string ⟨x.toArray⟩) := by
  rcases h with rfl | h
  · simp at hk
  · exact h
theorem SR.below {w w' : World} {ao : Option Addr} {L : List Bs} (h : SR w ao L) (hb : Below w.heap.size w w') : SR w' ao L := by
  rcases h with rfl | ⟨g, o, h1, h2, h3⟩
  · exact .inl rfl
  · exact .inr ⟨g, o, h1, Nat.lt_of_lt_of_le h2 hb.size, fun i x hx => by rw [hb.cell (p := ⟨g, o + i, none⟩) h2]; exact h3 i x hx⟩
theorem SR.up {w w' : World} {ao : Option Addr} {L : List Bs} (h : SR w ao L) (hb : Upd0 w w') : SR w' ao L := h.below (hb.below (Nat.le_refl _) (fun _ h => h.elim))
theorem bldByteN_w (B b : Nat) (l : Bs) (n : Nat) (hn : n < 256) (w : World) (h : Bld B b l w) (hlen : l.length ≤ 1000000) (hBw : B ≤ w.heap.size) :
    Calls Try.prog 104 #[.pointer (some ⟨b, 0, none⟩), .int .u8 n] w (Rets fun r w' => r = .nilIface ∧ Bld B b (l ++ [UInt8.ofNat n]) w' ∧ Below B w w') := by
  have := bldByte_w B b l (UInt8.ofNat n) w h hlen hBw
  rw [UInt8.toNat_ofNat'] at this
  have e : n % 2 ^ 8 = n := by omega
  rw [e] at this
  exact this
theorem jn_pre (L : List Bs) (k : Nat) : (jn (L.take k)).length ≤ (jn L).length := by
  conv => rhs; rw [← List.take_append_drop k L, jn_app]
  simp
theorem jnB_no {L : List Bs} {k : Nat} {x : Bs} (hx : L[k]? = some x) (h : lblOk x = false) : jnS L = [] ∧ jnC L = 1 := by
  have : jnB L = false := by
    cases hb : jnB L
    · rfl
    · exfalso
      simp only [jnB, Bool.and_eq_true] at hb
      have := List.all_eq_true.1 hb.1 x (List.mem_of_getElem? hx)
      rw [h] at this; cases this
  rw [jnS, jnC, this]; exact ⟨rfl, rfl⟩
theorem jnB_long {L : List Bs} (h : 254 < (jn L).length) : jnS L = [] ∧ jnC L = 1 := by
  have : jnB L = false := by rw [jnB, decide_eq_false (by omega), Bool.and_false]
  rw [jnS, jnC, this]; exact ⟨rfl, rfl⟩
theorem jnB_yes {L : List Bs} (h : L.all lblOk = true) (h2 : (jn L).length ≤ 254) : jnS L = jn L ∧ jnC L = 0 := by
  have : jnB L = true := by rw [jnB, h, decide_eq_true h2]; rfl
  rw [jnS, jnC, this]; exact ⟨rfl, rfl⟩
theorem all_snoc {L : List Bs} {k : Nat} {x : Bs} (h : (L.take k).all lblOk = true) (hx : L[k]? = some x) (ho : lblOk x = true) : (L.take (k + 1)).all lblOk = true ∧ jn (L.take (k + 1)) = jn (L.take k) ++ [UInt8.ofNat x.length] ++ x := by
  have hk : k < L.length := (List.getElem?_eq_some_iff.1 hx).1
  have e : L.take (k + 1) = L.take k ++ [x] := by rw [List.take_succ_eq_append_getElem hk]; congr 2; exact (List.getElem?_eq_some_iff.1 hx).2
  rw [e, List.all_append, h, jn_snoc]
  exact ⟨by simp [ho], by simp⟩
set_option maxRecDepth 100000 in
set_option maxHeartbeats 1000000 in
theorem join_w (ao : Option Addr) (cap : Nat) (L : List Bs) (w : World) (hS : SR w ao L) (hm : L.length ≤ 1000000) : Calls Try.prog 88 #[.slice ao L.length cap] w (Rets fun r w' => r = .tuple #[.string ⟨(jnS L).toArray⟩, .int .i64 (jnC L)] ∧ Upd0 w w') := by
  go_enter Try.func88, Try.ntmps88
  go_wp2_with (first | (with_reducible refine wp_serial (by kernel_rfl) (by kernel_rfl) (by repeat with_reducible (first | apply NoBad.then | apply NoBad.inBlock | apply NoBad.jump | exact NoBad.rets)) ?_) | fail)
  go_loopw [9] (fun i wr => ∃ k : Nat, k ≤ L.length ∧ i = .int .i64 k ∧ Hid (Bld w.heap.size w.heap.size (jn (L.take k)) wr ∧ (L.take k).all lblOk = true) ∧ Below w.heap.size w wr ∧ (jn (L.take k)).length ≤ 318) (fun i _ => L.length - (intOf i).toNat)
  case atStart => exact ⟨0, Nat.zero_le _, rfl, Lib.hid ⟨bld_new w, rfl⟩, (Below.refl _ _).alloc (Nat.le_refl _) _, by simp [jn]⟩
  case round =>
    obtain ⟨k, hk, rfl, hb, hw, hjl⟩ := hrel
    have hsz := hw.size
    have hup := Upd0.of_below hw
    by_cases hlt : k < L.length
    · obtain ⟨g, o, rfl, hg, hcs⟩ := (hS.below hw).some hlt
      obtain ⟨x, hx⟩ : ∃ x, L[k]? = some x := ⟨L[k], List.getElem?_eq_getElem hlt⟩
      have hc := hcs k x hx
      clear hcs
      cases ho : lblOk x with
      | false =>
        have hf := Lib.hid (jnB_no hx ho)
        have hxh := Lib.hid hx
        have hxl : x = [] ∨ ∃ c t, x = c :: t ∧ 63 ≤ t.length := by
          cases x with
          | nil => exact .inl rfl
          | cons c t =>
            refine .inr ⟨c, t, rfl, ?_⟩
            cases Nat.lt_or_ge t.length 63 with
            | inl h => rw [lblOk_iff.2 (by simp; omega)] at ho; cases ho
            | inr h => exact h
        clear hx ho
        rcases hxl with rfl | ⟨c, t, rfl, ht⟩
        all_goals
          go_wp2_with (first | (with_reducible refine wp_serial (by kernel_rfl) (by kernel_rfl) (by repeat with_reducible (first | apply NoBad.then | apply NoBad.inBlock | apply NoBad.jump | exact NoBad.rets)) ?_) | fail)
          all_goals go_returns
          all_goals exact ⟨by rw [hf.out.1, hf.out.2]; rfl, (by repeat first | with_reducible (first | exact Upd.refl _ _ | assumption | apply Upd.drew | apply Upd.alloc) | refine Upd0.tr ?_ (by with_reducible assumption) | refine Upd.setCell ?_ (fun h => absurd h (by first | exact Nat.lt_irrefl _ | (simp only []; omega))) _)⟩
      | true =>
        obtain ⟨h1, h2⟩ := lblOk_iff.1 ho
        have hst := Lib.hid (all_snoc hb.out.2 hx ho)
        obtain ⟨c, t, rfl⟩ : ∃ c t, x = c :: t := by
          cases x with
          | nil => simp at h1
          | cons c t => exact ⟨c, t, rfl⟩
        simp only [List.length_cons] at h1 h2
        clear hx ho
        rcases Nat.lt_or_ge 254 (jn (L.take k)).length with hlong | hshort
        · have hf := Lib.hid (jnB_long (L := L) (by have := jn_pre L k; omega))
          go_wp2_with (first
            | (go_at_call 103; refine (bldLen_w _ _ _ _ hb.out.1).use ?_; rintro r w1 ⟨rfl, rfl⟩)
            | (with_reducible refine wp_serial (by kernel_rfl) (by kernel_rfl) (by repeat with_reducible (first | apply NoBad.then | apply NoBad.inBlock | apply NoBad.jump | exact NoBad.rets)) ?_) | fail)
          all_goals go_returns
          all_goals exact ⟨by rw [hf.out.1, hf.out.2]; rfl, (by repeat first | with_reducible (first | exact Upd.refl _ _ | assumption | apply Upd.drew | apply Upd.alloc) | refine Upd0.tr ?_ (by with_reducible assumption) | refine Upd.setCell ?_ (fun h => absurd h (by first | exact Nat.lt_irrefl _ | (simp only []; omega))) _)⟩
        · go_wp2_with (first
            | (go_at_call 103; refine (bldLen_w _ _ _ _ hb.out.1).use ?_; rintro r w1 ⟨rfl, rfl⟩)
            | (go_at_call 104; refine (bldByteN_w _ _ _ (t.length + 1) (by omega) _ hb.out.1 (by omega) hsz).use ?_; rintro r w2 ⟨rfl, hb2, hw2⟩; have hb2h := Lib.hid hb2; clear hb2; have hsz2 := hw2.size)
            | (go_at_call 105; refine (bldStr_w _ _ _ (c :: t) _ hb2h.out (by simp; omega) (by simp; omega) (by omega)).use ?_; rintro r w3 ⟨rfl, hb3, hw3⟩; have hb3h := Lib.hid hb3; clear hb3)
            | (with_reducible refine wp_serial (by kernel_rfl) (by kernel_rfl) (by repeat with_reducible (first | apply NoBad.then | apply NoBad.inBlock | apply NoBad.jump | exact NoBad.rets)) ?_) | fail)
          go_roundw
          case rel => exact ⟨k + 1, by omega, by go_num, Lib.hid ⟨by rw [hst.out.2]; exact hb3h.out, hst.out.1⟩, (hw.trans hw2).trans hw3, by rw [hst.out.2]; simp; omega⟩
          case measure => simp [intOf]; omega
    · have htk : L.take k = L := List.take_of_length_le (by omega)
      rw [htk] at hb hjl
      rcases Nat.lt_or_ge 254 (jn L).length with hlong | hshort
      · have hf := Lib.hid (jnB_long hlong)
        go_wp2_with (first
          | (go_at_call 103; refine (bldLen_w _ _ _ _ hb.out.1).use ?_; rintro r w1 ⟨rfl, rfl⟩)
          | (with_reducible refine wp_serial (by kernel_rfl) (by kernel_rfl) (by repeat with_reducible (first | apply NoBad.then | apply NoBad.inBlock | apply NoBad.jump | exact NoBad.rets)) ?_) | fail)
        all_goals go_returns
        all_goals exact ⟨by rw [hf.out.1, hf.out.2]; rfl, (by repeat first | with_reducible (first | exact Upd.refl _ _ | assumption | apply Upd.drew | apply Upd.alloc) | refine Upd0.tr ?_ (by with_reducible assumption) | refine Upd.setCell ?_ (fun h => absurd h (by first | exact Nat.lt_irrefl _ | (simp only []; omega))) _)⟩
      · have hf := Lib.hid (jnB_yes hb.out.2 hshort)
        go_wp2_with (first
          | (go_at_call 103; refine (bldLen_w _ _ _ _ hb.out.1).use ?_; rintro r w1 ⟨rfl, rfl⟩)
          | (go_at_call 106; refine (bldString_w _ _ _ _ hb.out.1 hsz).use ?_; rintro r w2 ⟨rfl, hw2⟩)
          | (with_reducible refine wp_serial (by kernel_rfl) (by kernel_rfl) (by repeat with_reducible (first | apply NoBad.then | apply NoBad.inBlock | apply NoBad.jump | exact NoBad.rets)) ?_) | fail)
        all_goals go_returns
        all_goals exact ⟨by rw [hf.out.1, hf.out.2]; rfl, Upd0.of_below (hw.trans hw2)⟩
end Go.Proofs.Ytijmbpokglohbaa

namespace Go.Proofs.Ytijmbpokglohbaa
open Go.RowKit
set_option linter.unusedSimpArgs false
set_option linter.unusedVariables false
theorem jnB_many {L : List Bs} (h : 127 < L.length) : jnS L = [] ∧ jnC L = 1 := by
  have : jnB L = false := by
    cases hb : jnB L
    · rfl
    · exfalso
      simp only [jnB, Bool.and_eq_true, decide_eq_true_eq] at hb
      have := lbls_len L hb.1; omega
  rw [jnS, jnC, this]; exact ⟨rfl, rfl⟩
theorem one_br {W : World} {b n : Nat} (h : W.heap[b]? = some (.cells #[.int .u8 n] U8 (0, 0))) (hn : n < 256) : BR U8 0 W (.slice (some ⟨b, 0, none⟩) 1 1) [UInt8.ofNat n] :=
  .inr ⟨b, 1, _, _, rfl, Nat.zero_le _, h, .inl (Nat.le_refl _), Nat.le_refl _, by decide, rfl, by simp [byt, UInt8.toNat_ofNat']; omega⟩
set_option maxRecDepth 100000 in
set_option maxHeartbeats 1000000 in
theorem rjoin_w (ao : Option Addr) (cap : Nat) (L : List Bs) (w : World) (hS : SR w ao L) (hm : L.length ≤ 1000000) : Calls Try.prog 30 #[.slice ao L.length cap] w (Rets fun r w' => r = .tuple #[.string ⟨(jnS L).toArray⟩, .int .i64 (jnC L)] ∧ Upd0 w w') := by
  rcases Nat.lt_or_ge 127 L.length with hmany | hfew
  · have hf := Lib.hid (jnB_many hmany)
    go_enter Try.func30, Try.ntmps30
    go_wp2_with (first | (with_reducible refine wp_serial (by kernel_rfl) (by kernel_rfl) (by repeat with_reducible (first | apply NoBad.then | apply NoBad.inBlock | apply NoBad.jump | exact NoBad.rets)) ?_) | fail)
    all_goals go_returns
    all_goals exact ⟨by rw [hf.out.1, hf.out.2]; rfl, (by repeat first | with_reducible (first | exact Upd.refl _ _ | assumption | apply Upd.drew | apply Upd.alloc) | refine Upd0.tr ?_ (by with_reducible assumption) | refine Upd.setCell ?_ (fun h => absurd h (by first | exact Nat.lt_irrefl _ | (simp only []; omega))) _)⟩
  go_enter Try.func30, Try.ntmps30
  go_wp2_with (first | (with_reducible refine wp_serial (by kernel_rfl) (by kernel_rfl) (by repeat with_reducible (first | apply NoBad.then | apply NoBad.inBlock | apply NoBad.jump | exact NoBad.rets)) ?_) | fail)
  go_loopw [4, 5] (fun s i wr => ∃ (k : Nat) (q : Bs), k ≤ L.length ∧ i = .int .i64 k ∧ s = .string ⟨q.toArray⟩ ∧ q.length ≤ 64 * k ∧ Hid (q = jn (L.take k) ∧ (L.take k).all lblOk = true) ∧ Upd0 w wr) (fun _ i _ => L.length - (intOf i).toNat)
  case atStart => exact ⟨0, [], Nat.zero_le _, rfl, rfl, by simp, Lib.hid ⟨by simp [jn], rfl⟩, Upd.refl _ _⟩
  case round =>
    obtain ⟨k, q, hk, rfl, rfl, hql, hq, hu⟩ := hrel
    by_cases hlt : k < L.length
    · obtain ⟨g, o, rfl, hg, hcs⟩ := (hS.up hu).some hlt
      obtain ⟨x, hx⟩ : ∃ x, L[k]? = some x := ⟨L[k], List.getElem?_eq_getElem hlt⟩
      have hc := hcs k x hx
      clear hcs
      cases ho : lblOk x with
      | false =>
        have hf := Lib.hid (jnB_no hx ho)
        have hxl : x.length < 1 ∨ (1 ≤ x.length ∧ 63 < x.length) := by
          rcases Nat.lt_or_ge x.length 1 with h | h
          · exact .inl h
          · refine .inr ⟨h, ?_⟩
            rcases Nat.lt_or_ge 63 x.length with h' | h'
            · exact h'
            · rw [lblOk_iff.2 ⟨h, h'⟩] at ho; cases ho
        clear hx ho
        rcases hxl with ht | ⟨ht, ht2⟩
        all_goals
          go_wp2_with (first | (with_reducible refine wp_serial (by kernel_rfl) (by kernel_rfl) (by repeat with_reducible (first | apply NoBad.then | apply NoBad.inBlock | apply NoBad.jump | exact NoBad.rets)) ?_) | fail)
          all_goals go_returns
          all_goals exact ⟨by rw [hf.out.1, hf.out.2]; rfl, (by repeat first | with_reducible (first | exact Upd.refl _ _ | assumption | apply Upd.drew | apply Upd.alloc) | refine Upd0.tr ?_ (by with_reducible assumption) | refine Upd.setCell ?_ (fun h => absurd h (by first | exact Nat.lt_irrefl _ | (simp only []; omega))) _)⟩
      | true =>
        obtain ⟨h1, h2⟩ := lblOk_iff.1 ho
        have hst := Lib.hid (all_snoc hq.out.2 hx ho)
        clear hx ho
        go_wp2_with (first
          | (with_reducible refine wp_serial3_2 0 [] [0, 1, 2, 3, 4, 5, 10, 11, 12, 13] 6 [7] 8 [9, 14, 15] [_, _, _, _, _, _, _, _, _, _] _ [_] _ [_, _, _] (by kernel_rfl) (by decide +kernel) rfl rfl rfl rfl rfl ⟨Nat.zero_le _, fun s hs => absurd hs List.not_mem_nil⟩ (by repeat with_reducible (first | apply NoBad.then | apply NoBad.inBlock | apply NoBad.jump | exact NoBad.rets)) ?_)
          | (refine And.intro (Ext.refl _) ?_)
          | (refine wpList_ofB rfl (.tmp 36) 95 9 rfl 5 Try.underlying95 Try.underlying5 Try.underlying9 rfl (one_br (alloc_last wr _ wr.heap.size rfl) (by omega)) ?_)
          | (with_reducible refine wp_serial (by kernel_rfl) (by kernel_rfl) (by repeat with_reducible (first | apply NoBad.then | apply NoBad.inBlock | apply NoBad.jump | exact NoBad.rets)) ?_)
          | fail)
        go_roundw
        case rel => exact ⟨k + 1, q ++ UInt8.ofNat x.length :: x, by omega, by go_num, rfl, by simp; omega, Lib.hid ⟨by rw [hst.out.2, hq.out.1]; simp, hst.out.1⟩, (by repeat first | with_reducible (first | exact Upd.refl _ _ | assumption | apply Upd.drew | apply Upd.alloc) | refine Upd0.tr ?_ (by with_reducible assumption) | refine Upd.setCell ?_ (fun h => absurd h (by first | exact Nat.lt_irrefl _ | (simp only []; omega))) _)⟩
        case measure => simp [intOf]; omega
    · have htk : L.take k = L := List.take_of_length_le (by omega)
      rw [htk] at hq
      rcases Nat.lt_or_ge 254 (jn L).length with hlong | hshort
      · have hf := Lib.hid (jnB_long hlong)
        have hq2 : 254 < q.length := by rw [hq.out.1]; exact hlong
        go_wp2_with (first | (with_reducible refine wp_serial (by kernel_rfl) (by kernel_rfl) (by repeat with_reducible (first | apply NoBad.then | apply NoBad.inBlock | apply NoBad.jump | exact NoBad.rets)) ?_) | fail)
        all_goals go_returns
        all_goals exact ⟨by rw [hf.out.1, hf.out.2]; rfl, (by repeat first | with_reducible (first | exact Upd.refl _ _ | assumption | apply Upd.drew | apply Upd.alloc) | refine Upd0.tr ?_ (by with_reducible assumption) | refine Upd.setCell ?_ (fun h => absurd h (by first | exact Nat.lt_irrefl _ | (simp only []; omega))) _)⟩
      · have hf := Lib.hid (jnB_yes hq.out.2 hshort)
        have hq2 : q.length ≤ 254 := by rw [hq.out.1]; exact hshort
        go_wp2_with (first | (with_reducible refine wp_serial (by kernel_rfl) (by kernel_rfl) (by repeat with_reducible (first | apply NoBad.then | apply NoBad.inBlock | apply NoBad.jump | exact NoBad.rets)) ?_) | fail)
        all_goals go_returns
        all_goals exact ⟨by rw [hf.out.1, hf.out.2, ← hq.out.1]; rfl, (by repeat first | with_reducible (first | exact Upd.refl _ _ | assumption | apply Upd.drew | apply Upd.alloc) | refine Upd0.tr ?_ (by with_reducible assumption) | refine Upd.setCell ?_ (fun h => absurd h (by first | exact Nat.lt_irrefl _ | (simp only []; omega))) _)⟩
end Go.Proofs.Ytijmbpokglohbaa

namespace Go.Proofs.Ytijmbpokglohbaa
open Go.RowKit
set_option linter.unusedSimpArgs false
set_option linter.unusedVariables false
def foH (L : List Bs) (k : Nat) : List Bs := (L.take k).map smS ++ L.drop k
theorem foH_zero (L : List Bs) : foH L 0 = L := by simp [foH]
theorem foH_len (L : List Bs) (k : Nat) : (foH L k).length = L.length := by simp [foH]; omega
theorem foH_all (L : List Bs) {k : Nat} (h : L.length ≤ k) : foH L k = L.map smS := by simp [foH, List.take_of_length_le h, List.drop_of_length_le h]
theorem foH_get (L : List Bs) {k : Nat} {x : Bs} (h : L[k]? = some x) : (foH L k)[k]? = some x := by
  have hk := (List.getElem?_eq_some_iff.1 h).1
  have hl : ((L.take k).map smS).length = k := by simp; omega
  simp only [foH]
  rw [List.getElem?_append_right (by omega), hl, Nat.sub_self, List.getElem?_drop, Nat.add_zero, h]
theorem foH_step (L : List Bs) {k : Nat} {x : Bs} (h : L[k]? = some x) : (foH L k).set k (smS x) = foH L (k + 1) := by
  have hk := (List.getElem?_eq_some_iff.1 h).1
  have hx := (List.getElem?_eq_some_iff.1 h).2
  have hl : ((L.take k).map smS).length = k := by simp; omega
  simp only [foH]
  rw [List.set_append_right _ _ (by omega), hl, Nat.sub_self, List.drop_eq_getElem_cons hk, List.set_cons_zero, List.take_succ_eq_append_getElem hk, hx]
  simp
theorem strs_get {L : List Bs} {k : Nat} {x : Bs} (h : L[k]? = some x) : (strs L)[k]? = some (.string ⟨x.toArray⟩) := by simp [strs, h]
theorem strs_set (L : List Bs) (k : Nat) (x : Bs) : (strs L).set k (.string ⟨x.toArray⟩) = strs (L.set k x) := by simp [strs, List.map_set]
theorem strs_len (L : List Bs) : (strs L).length = L.length := by simp [strs]
theorem own_sr {w : World} {B : Nat} {ao : Option Addr} {n cap : Nat} {L : List Bs} (h : w.ownsRow B 9 1 (.slice ao n cap) n (strs L)) (hn : n = L.length) : SR w ao L := by
  cases L with
  | nil => exact .inl rfl
  | cons y t =>
    obtain ⟨g, rfl⟩ := ownsRow_some h (by rw [hn]; simp)
    exact .inr ⟨g, 0, rfl, ownsRow_lt h rfl, fun i x hx => by rw [Nat.zero_add]; exact ownsRow_cell h rfl (strs_get hx)⟩
set_option maxRecDepth 100000 in
set_option maxHeartbeats 1000000 in
theorem fold_w (s : Bs) (hm : s.length ≤ 70000) (w : World) : Calls Try.prog 66 #[.string ⟨s.toArray⟩] w (Rets fun r w' => r = .string ⟨(fold s).toArray⟩ ∧ Upd0 w w') := by
  have hmm : s.length ≤ maxLen := by unfold maxLen; omega
  cases hb : cutB s with
  | false =>
    have hf := Lib.hid (fold_no hb)
    have hbh := Lib.hid hb
    clear hb
    go_enter Try.func66, Try.ntmps66
    go_wp2_with (first
      | (go_at_call 86; refine (cut_any s hmm _).use ?_; rintro v w1 ⟨ao, cap, rfl, hr, hb1⟩; have hu1 := Upd0.of_below hb1; rw [hbh.out]; clear hr)
      | (with_reducible refine wp_serial (by kernel_rfl) (by kernel_rfl) (by repeat with_reducible (first | apply NoBad.then | apply NoBad.inBlock | apply NoBad.jump | exact NoBad.rets)) ?_) | fail)
    all_goals go_returns
    all_goals exact ⟨by rw [hf.out]; rfl, (by repeat first | with_reducible (first | exact Upd.refl _ _ | assumption | apply Upd.drew | apply Upd.alloc) | refine Upd0.tr ?_ (by with_reducible assumption) | refine Upd.setCell ?_ (fun h => absurd h (by first | exact Nat.lt_irrefl _ | (simp only []; omega))) _)⟩
  | true =>
    obtain ⟨j1, j2⟩ := fold_join hb
    have hl := (lbls_len (cutL s) (lab_jn s _ (cut_lab hb).2).2)
    rw [(lab_jn s _ (cut_lab hb).2).1] at hl
    have hS : jnS ((cutL s).map smS) = fold s ∧ jnC ((cutL s).map smS) = 0 := ⟨j2, by rw [jnC, j1]; rfl⟩
    obtain ⟨L, hL⟩ : ∃ L, cutL s = L := ⟨_, rfl⟩
    rw [hL] at hS hl
    have hx : ∀ (k : Nat) x, L[k]? = some x → x.length ≤ 70000 := by
      intro k x hx
      have := (List.all_eq_true.1 (lab_jn s _ (cut_lab hb).2).2) x (by rw [hL]; exact List.mem_of_getElem? hx)
      have := (lblOk_iff.1 this).2; omega
    have hSh := Lib.hid hS
    have hbh := Lib.hid hb
    have hLh := Lib.hid hL
    have hxh := Lib.hid hx
    clear hb hS hL j1 j2 hx
    go_enter Try.func66, Try.ntmps66
    go_wp2_with (first
      | (go_at_call 86; refine (cut_any s hmm _).use ?_; rintro v w1 ⟨ao, cap, rfl, hr, hb1⟩; have hu1 := Upd0.of_below hb1; rw [hbh.out]; rw [hLh.out] at hr ⊢; have hrh := Lib.hid hr; clear hr)
      | (with_reducible refine wp_serial (by kernel_rfl) (by kernel_rfl) (by repeat with_reducible (first | apply NoBad.then | apply NoBad.inBlock | apply NoBad.jump | exact NoBad.rets)) ?_) | fail)
    go_loopw [19] (fun i wr => ∃ k : Nat, k ≤ L.length ∧ i = .int .i64 k ∧ Upd0 w wr ∧ Hid (wr.ownsRow w.heap.size 9 1 (.slice ao L.length cap) L.length (strs (foH L k)))) (fun i _ => L.length - (intOf i).toNat)
    case atStart => exact ⟨0, Nat.zero_le _, rfl, hu1, Lib.hid (by rw [foH_zero]; exact hrh.out)⟩
    case round =>
      obtain ⟨k, hk, rfl, hu, ho⟩ := hrel
      by_cases hlt : k < L.length
      · obtain ⟨g, rfl⟩ := ownsRow_some ho.out (by omega)
        have hgB := (ho.out.lt g rfl).1
        obtain ⟨x, hx⟩ : ∃ x, L[k]? = some x := ⟨L[k], List.getElem?_eq_getElem hlt⟩
        have hc := ownsRow_cell ho.out rfl (strs_get (foH_get L hx))
        have hxl := hxh.out k x hx
        have hst := Lib.hid (foH_step L hx)
        have hxx := Lib.hid hx
        clear hx
        go_wp2_with (first
          | (go_at_call 87; refine (small_w x hxl _).use ?_; rintro v w2 ⟨rfl, hu2⟩; have ho2 := Lib.hid (ownsRow_upd ho.out hu2 (fun _ _ h => h)); obtain ⟨cur, g1, g2, g3, g4, g5⟩ := ownsRow_blk ho2.out; have hf2 : w2.frozen? ⟨g, k, none⟩ = false := blk_frz g1 k; have hc2 := ownsRow_cell ho2.out rfl (strs_get (foH_get L hxx.out)); clear g1 g2 g3 g4 g5)
          | (with_reducible refine wp_serial (by kernel_rfl) (by kernel_rfl) (by repeat with_reducible (first | apply NoBad.then | apply NoBad.inBlock | apply NoBad.jump | exact NoBad.rets)) ?_) | fail)
        go_roundw
        case rel => exact ⟨k + 1, by omega, by go_num, Upd.setCell (by repeat first | with_reducible (first | exact Upd.refl _ _ | assumption | apply Upd.drew | apply Upd.alloc) | refine Upd0.tr ?_ (by with_reducible assumption) | refine Upd.setCell ?_ (fun h => absurd h (by first | exact Nat.lt_irrefl _ | (simp only []; omega))) _) (fun h => absurd h (by simp only []; omega)) _, Lib.hid (by
          have h3 := ownsRow_set1 (ownsRow_mono ho2.out (fun _ _ => Nat.zero_le _)) k (.string ⟨(smS x).toArray⟩)
          rw [strs_set, hst.out] at h3
          exact ownsRow_mono h3 (fun g' hg' => by cases hg'; exact hgB))⟩
        case measure => simp [intOf]; omega
      · have hsr : SR wr ao (L.map smS) := own_sr (by rw [← foH_all L (k := k) (by omega)]; exact ho.out) (by simp)
        have hj := Lib.hid (join_w ao cap (L.map smS) wr hsr (by simp; omega))
        rw [List.length_map, hSh.out.1, hSh.out.2] at hj
        go_wp2_with (first
          | (go_at_call 88; refine hj.out.use ?_; rintro v w2 ⟨rfl, hu2⟩)
          | (with_reducible refine wp_serial (by kernel_rfl) (by kernel_rfl) (by repeat with_reducible (first | apply NoBad.then | apply NoBad.inBlock | apply NoBad.jump | exact NoBad.rets)) ?_) | fail)
        all_goals go_returns
        all_goals exact ⟨rfl, (by repeat first | with_reducible (first | exact Upd.refl _ _ | assumption | apply Upd.drew | apply Upd.alloc) | refine Upd0.tr ?_ (by with_reducible assumption) | refine Upd.setCell ?_ (fun h => absurd h (by first | exact Nat.lt_irrefl _ | (simp only []; omega))) _)⟩
set_option maxRecDepth 100000 in
set_option maxHeartbeats 1000000 in
theorem rfold_w (s : Bs) (hm : s.length ≤ 70000) (w : World) : Calls Try.prog 28 #[.string ⟨s.toArray⟩] w (Rets fun r w' => r = .string ⟨(fold s).toArray⟩ ∧ Upd0 w w') := by
  have hmm : s.length ≤ maxLen := by unfold maxLen; omega
  cases hb : cutB s with
  | false =>
    have hf := Lib.hid (fold_no hb)
    have hbh := Lib.hid hb
    clear hb
    go_enter Try.func28, Try.ntmps28
    go_wp2_with (first
      | (go_at_call 55; refine (rcut_any s hmm _).use ?_; rintro v w1 ⟨ao, cap, rfl, hr, hb1⟩; have hu1 := hb1; rw [hbh.out]; clear hr)
      | (with_reducible refine wp_serial (by kernel_rfl) (by kernel_rfl) (by repeat with_reducible (first | apply NoBad.then | apply NoBad.inBlock | apply NoBad.jump | exact NoBad.rets)) ?_) | fail)
    all_goals go_returns
    all_goals exact ⟨by rw [hf.out]; rfl, (by repeat first | with_reducible (first | exact Upd.refl _ _ | assumption | apply Upd.drew | apply Upd.alloc) | refine Upd0.tr ?_ (by with_reducible assumption) | refine Upd.setCell ?_ (fun h => absurd h (by first | exact Nat.lt_irrefl _ | (simp only []; omega))) _)⟩
  | true =>
    obtain ⟨j1, j2⟩ := fold_join hb
    have hl := (lbls_len (cutL s) (lab_jn s _ (cut_lab hb).2).2)
    rw [(lab_jn s _ (cut_lab hb).2).1] at hl
    have hS : jnS ((cutL s).map smS) = fold s ∧ jnC ((cutL s).map smS) = 0 := ⟨j2, by rw [jnC, j1]; rfl⟩
    obtain ⟨L, hL⟩ : ∃ L, cutL s = L := ⟨_, rfl⟩
    rw [hL] at hS hl
    have hx : ∀ (k : Nat) x, L[k]? = some x → x.length ≤ 70000 := by
      intro k x hx
      have := (List.all_eq_true.1 (lab_jn s _ (cut_lab hb).2).2) x (by rw [hL]; exact List.mem_of_getElem? hx)
      have := (lblOk_iff.1 this).2; omega
    have hSh := Lib.hid hS
    have hbh := Lib.hid hb
    have hLh := Lib.hid hL
    have hxh := Lib.hid hx
    clear hb hS hL j1 j2 hx
    go_enter Try.func28, Try.ntmps28
    go_wp2_with (first
      | (go_at_call 55; refine (rcut_any s hmm _).use ?_; rintro v w1 ⟨ao, cap, rfl, hr, hb1⟩; have hu1 := hb1; rw [hbh.out]; rw [hLh.out] at hr ⊢; have hrh := Lib.hid hr; clear hr)
      | (with_reducible refine wp_serial (by kernel_rfl) (by kernel_rfl) (by repeat with_reducible (first | apply NoBad.then | apply NoBad.inBlock | apply NoBad.jump | exact NoBad.rets)) ?_) | fail)
    go_loopw [5] (fun i wr => ∃ k : Nat, k ≤ L.length ∧ i = .int .i64 k ∧ Upd0 w wr ∧ Hid (wr.ownsRow w.heap.size 9 1 (.slice ao L.length cap) L.length (strs (foH L k)))) (fun i _ => L.length - (intOf i).toNat)
    case atStart => exact ⟨0, Nat.zero_le _, rfl, hu1, Lib.hid (by rw [foH_zero]; exact hrh.out)⟩
    case round =>
      obtain ⟨k, hk, rfl, hu, ho⟩ := hrel
      by_cases hlt : k < L.length
      · obtain ⟨g, rfl⟩ := ownsRow_some ho.out (by omega)
        have hgB := (ho.out.lt g rfl).1
        obtain ⟨x, hx⟩ : ∃ x, L[k]? = some x := ⟨L[k], List.getElem?_eq_getElem hlt⟩
        have hc := ownsRow_cell ho.out rfl (strs_get (foH_get L hx))
        have hxl := hxh.out k x hx
        have hst := Lib.hid (foH_step L hx)
        have hxx := Lib.hid hx
        clear hx
        go_wp2_with (first
          | (go_at_call 56; refine (rsmall_w x hxl _).use ?_; rintro v w2 ⟨rfl, hu2⟩; have ho2 := Lib.hid (ownsRow_upd ho.out hu2 (fun _ _ h => h)); obtain ⟨cur, g1, g2, g3, g4, g5⟩ := ownsRow_blk ho2.out; have hf2 : w2.frozen? ⟨g, k, none⟩ = false := blk_frz g1 k; have hc2 := ownsRow_cell ho2.out rfl (strs_get (foH_get L hxx.out)); clear g1 g2 g3 g4 g5)
          | (with_reducible refine wp_serial (by kernel_rfl) (by kernel_rfl) (by repeat with_reducible (first | apply NoBad.then | apply NoBad.inBlock | apply NoBad.jump | exact NoBad.rets)) ?_) | fail)
        go_roundw
        case rel => exact ⟨k + 1, by omega, by go_num, Upd.setCell (by repeat first | with_reducible (first | exact Upd.refl _ _ | assumption | apply Upd.drew | apply Upd.alloc) | refine Upd0.tr ?_ (by with_reducible assumption) | refine Upd.setCell ?_ (fun h => absurd h (by first | exact Nat.lt_irrefl _ | (simp only []; omega))) _) (fun h => absurd h (by simp only []; omega)) _, Lib.hid (by
          have h3 := ownsRow_set1 (ownsRow_mono ho2.out (fun _ _ => Nat.zero_le _)) k (.string ⟨(smS x).toArray⟩)
          rw [strs_set, hst.out] at h3
          exact ownsRow_mono h3 (fun g' hg' => by cases hg'; exact hgB))⟩
        case measure => simp [intOf]; omega
      · have hsr : SR wr ao (L.map smS) := own_sr (by rw [← foH_all L (k := k) (by omega)]; exact ho.out) (by simp)
        have hj := Lib.hid (rjoin_w ao cap (L.map smS) wr hsr (by simp; omega))
        rw [List.length_map, hSh.out.1, hSh.out.2] at hj
        go_wp2_with (first
          | (go_at_call 30; refine hj.out.use ?_; rintro v w2 ⟨rfl, hu2⟩)
          | (with_reducible refine wp_serial (by kernel_rfl) (by kernel_rfl) (by repeat with_reducible (first | apply NoBad.then | apply NoBad.inBlock | apply NoBad.jump | exact NoBad.rets)) ?_) | fail)
        all_goals go_returns
        all_goals exact ⟨rfl, (by repeat first | with_reducible (first | exact Upd.refl _ _ | assumption | apply Upd.drew | apply Upd.alloc) | refine Upd0.tr ?_ (by with_reducible assumption) | refine Upd.setCell ?_ (fun h => absurd h (by first | exact Nat.lt_irrefl _ | (simp only []; omega))) _)⟩
end Go.Proofs.Ytijmbpokglohbaa

namespace Go.Proofs.Ytijmbpokglohbaa
set_option linter.unusedSimpArgs false
set_option linter.unusedVariables false
/-- a comparison: -1, 0, 1 -/
structure Cmp3 {α : Type} (c : α → α → Int) : Prop where
  zero : ∀ a b, c a b = 0 ↔ a = b
  neg : ∀ a b, c b a = - c a b
  lt : ∀ a b d, c a b = -1 → c b d = -1 → c a d = -1
  one : ∀ a b, c a b = -1 ∨ c a b = 0 ∨ c a b = 1
theorem Cmp3.refl {α : Type} {c : α → α → Int} (h : Cmp3 c) (a : α) : c a a = 0 := (h.zero a a).2 rfl
theorem Cmp3.trans {α : Type} {c : α → α → Int} (h : Cmp3 c) {a b d : α} (h1 : c a b ≤ 0) (h2 : c b d ≤ 0) : c a d ≤ 0 := by
  rcases h.one a b with e | e | e
  · rcases h.one b d with f | f | f
    · have := h.lt a b d e f; omega
    · have := (h.zero b d).1 f; subst this; omega
    · omega
  · have := (h.zero a b).1 e; subst this; exact h2
  · omega
theorem Cmp3.eq {α : Type} {c : α → α → Int} (h : Cmp3 c) {a b : α} (h1 : c a b ≤ 0) (h2 : c b a ≤ 0) : a = b := by
  have := h.neg a b
  exact (h.zero a b).1 (by omega)
/-- lists, by their elements; the shorter one is ahead -/
def lexC {α : Type} (c : α → α → Int) : List α → List α → Int
  | [], [] => 0
  | [], _ :: _ => -1
  | _ :: _, [] => 1
  | x :: xs, y :: ys => if c x y = 0 then lexC c xs ys else c x y
theorem Cmp3.lex {α : Type} {c : α → α → Int} (h : Cmp3 c) : Cmp3 (lexC c) where
  zero := by
    intro a
    induction a with
    | nil => intro b; cases b <;> simp [lexC]
    | cons x xs ih =>
      intro b
      cases b with
      | nil => simp [lexC]
      | cons y ys =>
        simp only [lexC]
        split
        · rename_i e
          rw [ih, (h.zero x y).1 e]; simp
        · rename_i e
          constructor
          · intro h'; exact absurd h' e
          · intro h'; cases h'; exact absurd (h.refl x) e
  neg := by
    intro a
    induction a with
    | nil => intro b; cases b <;> simp [lexC]
    | cons x xs ih =>
      intro b
      cases b with
      | nil => simp [lexC]
      | cons y ys =>
        have e := h.neg x y
        simp only [lexC]
        by_cases h0 : c x y = 0
        · rw [if_pos h0, if_pos (by omega), ih]
        · rw [if_neg h0, if_neg (by omega), e]
  lt := by
    intro a
    induction a with
    | nil => intro b d h1 h2; cases b <;> cases d <;> simp_all [lexC]
    | cons x xs ih =>
      intro b d h1 h2
      cases b with
      | nil => simp [lexC] at h1
      | cons y ys =>
        cases d with
        | nil => simp [lexC] at h2
        | cons z zs =>
          simp only [lexC] at h1 h2 ⊢
          by_cases e1 : c x y = 0
          · have := (h.zero x y).1 e1; subst this
            rw [if_pos e1] at h1
            by_cases e2 : c x z = 0
            · rw [if_pos e2] at h2 ⊢; exact ih ys zs h1 h2
            · rw [if_neg e2] at h2 ⊢; exact h2
          · rw [if_neg e1] at h1
            by_cases e2 : c y z = 0
            · have := (h.zero y z).1 e2; subst this
              rw [if_neg e1]; exact h1
            · rw [if_neg e2] at h2
              have := h.lt x y z h1 h2
              rw [if_neg (by omega)]; exact this
  one := by
    intro a
    induction a with
    | nil => intro b; cases b <;> simp [lexC]
    | cons x xs ih =>
      intro b
      cases b with
      | nil => simp [lexC]
      | cons y ys =>
        simp only [lexC]
        split
        · exact ih ys
        · exact h.one x y
/-- what stands between two lists that begin so begins so -/
theorem Cmp3.between {α : Type} {c : α → α → Int} (h : Cmp3 c) : ∀ (p x y z : List α), lexC c x y ≤ 0 → lexC c y z ≤ 0 → p <+: x → p <+: z → p <+: y
  | [], _, _, _, _, _, _, _ => List.nil_prefix
  | q :: p, x, y, z, h1, h2, hx, hz => by
    obtain ⟨x', rfl⟩ := hx
    obtain ⟨z', rfl⟩ := hz
    cases y with
    | nil => simp [lexC] at h1
    | cons w y =>
      simp only [List.cons_append, lexC] at h1 h2
      have hq : q = w := by
        apply h.eq
        · by_cases e : c q w = 0
          · omega
          · rw [if_neg e] at h1; exact h1
        · by_cases e : c w q = 0
          · omega
          · rw [if_neg e] at h2; exact h2
      subst hq
      rw [if_pos (h.refl q)] at h1 h2
      exact List.cons_prefix_cons.2 ⟨rfl, h.between p (p ++ x') y (p ++ z') h1 h2 (List.prefix_append _ _) (List.prefix_append _ _)⟩
theorem lexC_more {α : Type} {c : α → α → Int} (h : Cmp3 c) : ∀ (l : List α) (x : α), lexC c l (l ++ [x]) = -1
  | [], _ => rfl
  | y :: l, x => by simp only [List.cons_append, lexC, if_pos (h.refl y)]; exact lexC_more h l x
def cmpU (a b : UInt8) : Int := if a < b then -1 else if b < a then 1 else 0
theorem cmpU_ok : Cmp3 cmpU where
  zero := by
    intro a b
    unfold cmpU
    simp only [UInt8.lt_iff_toNat_lt]
    constructor
    · intro h
      apply UInt8.toNat_inj.1
      split at h
      · cases h
      · split at h
        · cases h
        · omega
    · rintro rfl; simp
  neg := by
    intro a b
    unfold cmpU
    simp only [UInt8.lt_iff_toNat_lt]
    by_cases h1 : a.toNat < b.toNat
    · have h2 : ¬ b.toNat < a.toNat := by omega
      simp [h1, h2]
    · by_cases h2 : b.toNat < a.toNat
      · simp [h1, h2]
      · simp [h1, h2]
  lt := by
    intro a b d
    unfold cmpU
    simp only [UInt8.lt_iff_toNat_lt]
    intro h1 h2
    have g1 : a.toNat < b.toNat := by
      by_cases g : a.toNat < b.toNat
      · exact g
      · rw [if_neg g] at h1; split at h1 <;> cases h1
    have g2 : b.toNat < d.toNat := by
      by_cases g : b.toNat < d.toNat
      · exact g
      · rw [if_neg g] at h2; split at h2 <;> cases h2
    rw [if_pos (by omega)]
  one := by intro a b; unfold cmpU; split; simp; split <;> simp
/-- two texts, as Go orders them -/
def cmpS (a b : Bs) : Int := lexC cmpU a b
theorem cmpS_ok : Cmp3 cmpS := cmpU_ok.lex
theorem cmpS_cons (x y : UInt8) (xs ys : Bs) : cmpS (x :: xs) (y :: ys) = if cmpU x y = 0 then cmpS xs ys else cmpU x y := rfl
theorem less_iff : ∀ a b : Bs, Op.bytesLess a b = true ↔ cmpS a b = -1
  | [], [] => by simp [Op.bytesLess, cmpS, lexC]
  | [], _ :: _ => by simp [Op.bytesLess, cmpS, lexC]
  | _ :: _, [] => by simp [Op.bytesLess, cmpS, lexC]
  | x :: xs, y :: ys => by
    have ih := less_iff xs ys
    rw [cmpS_cons]
    simp only [Op.bytesLess, Bool.or_eq_true, Bool.and_eq_true, beq_iff_eq, decide_eq_true_eq]
    rw [ih]
    by_cases h : x = y
    · subst h
      have h1 : ¬ x < x := by simp [UInt8.lt_iff_toNat_lt]
      rw [if_pos (cmpU_ok.refl x)]
      simp [h1]
    · rw [if_neg (fun e => h ((cmpU_ok.zero x y).1 e))]
      unfold cmpU
      by_cases hl : x < y
      · simp [hl]
      · simp only [hl, h, false_and, or_false, if_false]; split <;> simp
theorem less_cmp (a b : Bs) : Op.bytesLess a b = decide (cmpS a b = -1) := by
  rw [Bool.eq_iff_iff, less_iff]; simp
/-- a name's labels from the last one on, folded -/
def trn (s : Bs) : List Bs := ((cutL s).map smS).reverse
theorem cutL_no {s : Bs} (h : cutB s = false) : cutL s = [] := by
  unfold cutB at h; unfold cutL
  cases hc : cutO s with
  | none => rfl
  | some l => rw [hc] at h; cases h
theorem cut_of {s : Bs} {l : List Bs} (h1 : s.length ≤ 254) (h2 : lab s = some l) : cutB s = true ∧ cutL s = l := by
  unfold cutB cutL cutO
  rw [if_neg (by omega), h2]; exact ⟨rfl, rfl⟩
theorem cut_fold (s : Bs) : cutB (fold s) = cutB s ∧ cutL (fold s) = (cutL s).map smS := by
  cases hb : cutB s with
  | false => rw [fold_no hb, cutL_no hb, hb]; exact ⟨rfl, rfl⟩
  | true =>
    obtain ⟨h1, h2⟩ := cut_lab hb
    obtain ⟨h3, h4⟩ := lab_jn s _ h2
    have hf : fold s = jn ((cutL s).map smS) := by rw [fold, hb, jn_smS _ h4, h3]; rfl
    have hl : (fold s).length ≤ 254 := by rw [fold, hb]; simpa [smS_len] using h1
    have h5 := jn_lab _ (smS_lbls _ h4)
    rw [← hf] at h5
    exact cut_of hl h5
theorem fold_len (s : Bs) : (fold s).length = s.length := by unfold fold; split; exact smS_len s; rfl
theorem fold_fold (s : Bs) : fold (fold s) = fold s := by
  cases hb : cutB s with
  | false => rw [fold_no hb, fold_no hb]
  | true => rw [fold, (cut_fold s).1, hb, fold, hb]; simp [smS_smS]
theorem trn_fold (s : Bs) : trn (fold s) = trn s := by
  unfold trn
  rw [(cut_fold s).2, List.map_map]
  congr 2
  funext x; exact smS_smS x
theorem trn_turn (s : Bs) : (cutL (fold s)).reverse = trn s := by rw [(cut_fold s).2]; rfl
/-- is n top, or below it? -/
def undB (n t : Bs) : Bool := cutB n && cutB t && (decide ((trn t).length ≤ (trn n).length) && ((trn n).take (trn t).length == trn t))
theorem undB_iff {n t : Bs} : undB n t = true ↔ cutB n = true ∧ cutB t = true ∧ trn t <+: trn n := by
  simp only [undB, Bool.and_eq_true, decide_eq_true_eq, beq_iff_eq]
  constructor
  · rintro ⟨⟨h1, h2⟩, h3, h4⟩
    exact ⟨h1, h2, by rw [← h4]; exact List.take_prefix _ _⟩
  · rintro ⟨h1, h2, h3⟩
    exact ⟨⟨h1, h2⟩, h3.length_le, (List.prefix_iff_eq_take.1 h3).symm⟩
def cmpN (a b : Bs) : Int := if cutB a then (if cutB b then lexC cmpS (trn a) (trn b) else 1) else (if cutB b then -1 else cmpS a b)
theorem cmpN_neg (a b : Bs) : cmpN b a = - cmpN a b := by
  unfold cmpN
  cases cutB a <;> cases cutB b
  · exact cmpS_ok.neg a b
  · rfl
  · rfl
  · exact cmpS_ok.lex.neg _ _
theorem cmpN_trans {a b d : Bs} (h1 : cmpN a b ≤ 0) (h2 : cmpN b d ≤ 0) : cmpN a d ≤ 0 := by
  unfold cmpN at h1 h2 ⊢
  cases ha : cutB a <;> cases hb : cutB b <;> cases hd : cutB d <;> simp only [ha, hb, hd, if_true, if_false, Bool.false_eq_true] at h1 h2 ⊢
  · exact cmpS_ok.trans h1 h2
  · omega
  · omega
  · omega
  · omega
  · omega
  · omega
  · exact cmpS_ok.lex.trans h1 h2
/-- names under a name stand together -/
theorem und_between {a b c t : Bs} (h1 : cmpN a b ≤ 0) (h2 : cmpN b c ≤ 0) (ha : undB a t = true) (hc : undB c t = true) : undB b t = true := by
  obtain ⟨a1, a2, a3⟩ := undB_iff.1 ha
  obtain ⟨c1, c2, c3⟩ := undB_iff.1 hc
  have hb : cutB b = true := by
    cases hb : cutB b
    · unfold cmpN at h1; rw [a1, hb] at h1; simp at h1
    · rfl
  unfold cmpN at h1 h2
  rw [a1, hb] at h1
  rw [hb, c1] at h2
  exact undB_iff.2 ⟨hb, a2, cmpS_ok.between _ _ _ _ h1 h2 a3 c3⟩
theorem cmpN_fold {n : Bs} (m : Bs) (h : cutB n = true) : cmpN (fold n) m = cmpN n m := by
  unfold cmpN; rw [(cut_fold n).1, h, trn_fold]
  cases cutB m <;> rfl
theorem cmpN_fold0 {n : Bs} (h : cutB n = true) : cmpN (fold n) n = 0 := by
  rw [cmpN_fold n h]; unfold cmpN; rw [h]; exact cmpS_ok.lex.refl _
theorem undB_fold1 (n m : Bs) : undB (fold n) m = undB n m := by unfold undB; rw [(cut_fold n).1, trn_fold]
theorem undB_fold2 (n m : Bs) : undB m (fold n) = undB m n := by unfold undB; rw [(cut_fold n).1, trn_fold]
/-- a name without its first label -/
theorem par_facts {k : UInt8} {t : Bs} (h : cutB (k :: t) = true) : okL k t = true ∧ cutB (t.drop k.toNat) = true ∧ cutL (k :: t) = t.take k.toNat :: cutL (t.drop k.toNat) := by
  obtain ⟨h1, h2⟩ := cut_lab h
  rw [lab_cons] at h2
  cases hok : okL k t with
  | false => rw [hok] at h2; cases h2
  | true =>
    rw [hok, if_pos rfl] at h2
    cases hl : lab (t.drop k.toNat) with
    | none => rw [hl] at h2; cases h2
    | some l =>
      rw [hl] at h2
      simp only [Option.map_some, Option.some.injEq] at h2
      obtain ⟨c1, c2⟩ := cut_of (s := t.drop k.toNat) (by simp only [List.length_cons] at h1; simp; omega) hl
      exact ⟨rfl, c1, by rw [c2, ← h2]⟩
theorem par_und {k : UInt8} {t : Bs} (h : cutB (k :: t) = true) : undB (k :: t) (t.drop k.toNat) = true ∧ undB (t.drop k.toNat) (k :: t) = false ∧ cmpN (t.drop k.toNat) (k :: t) = -1 := by
  obtain ⟨h1, h2, h3⟩ := par_facts h
  have ht : trn (k :: t) = trn (t.drop k.toNat) ++ [smS (t.take k.toNat)] := by unfold trn; rw [h3]; simp
  refine ⟨undB_iff.2 ⟨h, h2, by rw [ht]; exact List.prefix_append _ _⟩, ?_, ?_⟩
  · cases hu : undB (t.drop k.toNat) (k :: t)
    · rfl
    · have := (undB_iff.1 hu).2.2.length_le
      rw [ht] at this; simp at this; omega
  · unfold cmpN; rw [h, h2, ht]; exact lexC_more cmpS_ok _ _
/-- labels one behind the other -/
theorem joined {a b : Bs} (ha : cutB a = true) (hb : cutB b = true) : (jnB (cutL a ++ cutL b) = true ↔ (a ++ b).length ≤ 254) ∧ jn (cutL a ++ cutL b) = a ++ b := by
  obtain ⟨a1, a2⟩ := cut_lab ha
  obtain ⟨b1, b2⟩ := cut_lab hb
  obtain ⟨a3, a4⟩ := lab_jn a _ a2
  obtain ⟨b3, b4⟩ := lab_jn b _ b2
  have hj : jn (cutL a ++ cutL b) = a ++ b := by rw [jn_app, a3, b3]
  refine ⟨?_, hj⟩
  rw [jnB, hj, List.all_append, a4, b4]; simp
theorem joined_und {a b : Bs} (ha : cutB a = true) (hb : cutB b = true) (h : (a ++ b).length ≤ 254) : undB (a ++ b) b = true := by
  obtain ⟨a1, a2⟩ := cut_lab ha
  obtain ⟨b1, b2⟩ := cut_lab hb
  have hl : lab (a ++ b) = some (cutL a ++ cutL b) := by
    rw [← (joined ha hb).2]
    exact jn_lab _ (by rw [List.all_append, (lab_jn a _ a2).2, (lab_jn b _ b2).2]; rfl)
  obtain ⟨c1, c2⟩ := cut_of h hl
  exact undB_iff.2 ⟨c1, hb, by unfold trn; rw [c2, List.map_append, List.reverse_append]; exact List.prefix_append _ _⟩
end Go.Proofs.Ytijmbpokglohbaa

namespace Go.Proofs.Ytijmbpokglohbaa
set_option linter.unusedSimpArgs false
set_option linter.unusedVariables false
def dig (n : Nat) : UInt8 := UInt8.ofNat (48 + n)
def esc (c : UInt8) : Bs := if c = 46 ∨ c = 92 then [92, c] else if c.toNat < 33 ∨ 126 < c.toNat then [92, dig (c.toNat / 100), dig (c.toNat / 10 % 10), dig (c.toNat % 10)] else [c]
def txt (x : Bs) : Bs := x.flatMap esc
def lbls (L : List Bs) : Bs := L.flatMap fun x => txt x ++ [46]
def prnL (L : List Bs) : Bs := if L = [] then [46] else lbls L
def prnS (s : Bs) : Bs := if cutB s then prnL (cutL s) else []
def prnC (s : Bs) : Int := if cutB s then 0 else 1
theorem txt_cons (c : UInt8) (x : Bs) : txt (c :: x) = esc c ++ txt x := rfl
theorem txt_app (a b : Bs) : txt (a ++ b) = txt a ++ txt b := by simp [txt]
theorem lbls_cons (x : Bs) (L : List Bs) : lbls (x :: L) = txt x ++ 46 :: lbls L := by simp [lbls]
theorem lbls_app (a b : List Bs) : lbls (a ++ b) = lbls a ++ lbls b := by simp [lbls]
theorem esc_len (c : UInt8) : 1 ≤ (esc c).length ∧ (esc c).length ≤ 4 := by unfold esc; split; simp; split <;> simp
theorem txt_len : ∀ x : Bs, x.length ≤ (txt x).length ∧ (txt x).length ≤ 4 * x.length
  | [] => by simp [txt]
  | c :: x => by
    have := txt_len x
    have := esc_len c
    rw [txt_cons]; simp only [List.length_append, List.length_cons]; omega
theorem lbls_len2 : ∀ L : List Bs, (lbls L).length ≤ 4 * (jn L).length
  | [] => by simp [lbls, jn]
  | x :: L => by
    have := lbls_len2 L
    have := txt_len x
    rw [lbls_cons, jn_cons]; simp only [List.length_append, List.length_cons]; omega
def isD (d : UInt8) : Bool := decide (48 ≤ d.toNat) && decide (d.toNat ≤ 57)
/-- the first byte of a text, how many bytes that takes (0: none fits), whether it ends a label -/
def nxE : Bs → UInt8 × Nat × Bool
  | [] => (0, 0, false)
  | y :: r => if y = 46 ∨ y = 92 then (y, 2, false) else match r with
    | a :: b :: _ => if isD y && isD a && isD b && decide (100 * (y.toNat - 48) + 10 * (a.toNat - 48) + (b.toNat - 48) ≤ 255) then (UInt8.ofNat (100 * (y.toNat - 48) + 10 * (a.toNat - 48) + (b.toNat - 48)), 4, false) else (0, 0, false)
    | _ => (0, 0, false)
def nx : Bs → UInt8 × Nat × Bool
  | [] => (0, 0, false)
  | x :: t => if x = 46 then (46, 1, true) else if x = 92 then nxE t else (x, 1, false)
theorem nx_cons (x : UInt8) (t : Bs) : nx (x :: t) = if x = 46 then (46, 1, true) else if x = 92 then nxE t else (x, 1, false) := rfl
theorem nxE_cons (y : UInt8) (r : Bs) : nxE (y :: r) = if y = 46 ∨ y = 92 then (y, 2, false) else match r with
    | a :: b :: _ => if isD y && isD a && isD b && decide (100 * (y.toNat - 48) + 10 * (a.toNat - 48) + (b.toNat - 48) ≤ 255) then (UInt8.ofNat (100 * (y.toNat - 48) + 10 * (a.toNat - 48) + (b.toNat - 48)), 4, false) else (0, 0, false)
    | _ => (0, 0, false) := rfl
theorem nx_dot (r : Bs) : nx (46 :: r) = (46, 1, true) := rfl
theorem nx_esc (c : UInt8) (r : Bs) : nx (esc c ++ r) = (c, (esc c).length, false) := by
  unfold esc
  split
  · rename_i h
    rcases h with rfl | rfl <;> rfl
  · rename_i h
    split
    · have hc := c.toNat_lt
      have hs : 100 * (c.toNat / 100) + 10 * (c.toNat / 10 % 10) + c.toNat % 10 = c.toNat := by omega
      have hA : c.toNat / 100 ≤ 2 := by omega
      have hB : c.toNat / 10 % 10 ≤ 9 := by omega
      have hC : c.toNat % 10 ≤ 9 := by omega
      generalize c.toNat / 100 = A at *
      generalize c.toNat / 10 % 10 = B at *
      generalize c.toNat % 10 = C at *
      have e1 : (dig A).toNat = 48 + A := by rw [dig, UInt8.toNat_ofNat']; omega
      have e2 : (dig B).toNat = 48 + B := by rw [dig, UInt8.toNat_ofNat']; omega
      have e3 : (dig C).toNat = 48 + C := by rw [dig, UInt8.toNat_ofNat']; omega
      have n1 : ¬ (dig A = 46 ∨ dig A = 92) := by
        rintro (h' | h')
        · rw [h'] at e1; have : (46 : UInt8).toNat = 46 := rfl; omega
        · rw [h'] at e1; have : (92 : UInt8).toNat = 92 := rfl; omega
      rw [List.cons_append, nx_cons, if_neg (by decide), if_pos rfl]
      simp only [List.cons_append, List.nil_append]
      rw [nxE_cons, if_neg n1]
      simp only [isD, e1, e2, e3]
      rw [if_pos (by simp only [Bool.and_eq_true, decide_eq_true_eq]; omega)]
      have e : UInt8.ofNat (100 * (48 + A - 48) + 10 * (48 + B - 48) + (48 + C - 48)) = c := by
        apply UInt8.toNat_inj.1; rw [UInt8.toNat_ofNat']; omega
      rw [e]; rfl
    · rw [List.cons_append, nx_cons, if_neg (fun e => h (.inl e)), if_neg (fun e => h (.inr e))]; rfl
theorem nx_pos (s : Bs) : (nx s).2.1 ≤ s.length := by
  cases s with
  | nil => simp [nx]
  | cons x t =>
    rw [nx_cons]
    split
    · simp
    · split
      · cases t with
        | nil => simp [nxE]
        | cons y r =>
          rw [nxE_cons]
          split
          · simp
          · split
            · split <;> simp
            · simp
      · simp
/-- the labels that the program reads -/
def parF : Nat → Bs → Bs → Option (List Bs)
  | _, [], _ => some []
  | 0, _ :: _, _ => none
  | f + 1, x :: t, lbl =>
    if (nx (x :: t)).2.1 = 0 then none
    else if (nx (x :: t)).2.2 then (parF f ((x :: t).drop (nx (x :: t)).2.1) []).map (lbl :: ·)
    else parF f ((x :: t).drop (nx (x :: t)).2.1) (lbl ++ [(nx (x :: t)).1])
theorem parF_more : ∀ (f g : Nat) (s lbl : Bs), s.length ≤ f → s.length ≤ g → parF f s lbl = parF g s lbl := by
  intro f
  induction f with
  | zero =>
    intro g s lbl h1 h2
    have : s = [] := List.eq_nil_of_length_eq_zero (by omega)
    subst this
    cases g <;> rfl
  | succ f ih =>
    intro g s lbl h1 h2
    cases s with
    | nil => cases g <;> rfl
    | cons x t =>
      cases g with
      | zero => simp at h2
      | succ g =>
        simp only [parF]
        by_cases h0 : (nx (x :: t)).2.1 = 0
        · rw [if_pos h0, if_pos h0]
        · rw [if_neg h0, if_neg h0]
          simp only [List.length_cons] at h1 h2
          have hd : ((x :: t).drop (nx (x :: t)).2.1).length ≤ t.length := by
            simp only [List.length_drop, List.length_cons]; omega
          rw [ih g _ [] (by omega) (by omega), ih g _ (lbl ++ [(nx (x :: t)).1]) (by omega) (by omega)]
def parP (s lbl : Bs) : Option (List Bs) := parF s.length s lbl
theorem parP_nil (lbl : Bs) : parP [] lbl = some [] := rfl
theorem parP_step {s : Bs} (lbl : Bs) (h : s ≠ []) : parP s lbl = if (nx s).2.1 = 0 then none else if (nx s).2.2 then (parP (s.drop (nx s).2.1) []).map (lbl :: ·) else parP (s.drop (nx s).2.1) (lbl ++ [(nx s).1]) := by
  cases s with
  | nil => exact absurd rfl h
  | cons x t =>
    unfold parP
    show parF (t.length + 1) (x :: t) lbl = _
    simp only [parF]
    by_cases h0 : (nx (x :: t)).2.1 = 0
    · rw [if_pos h0, if_pos h0]
    · rw [if_neg h0, if_neg h0]
      have hd : ((x :: t).drop (nx (x :: t)).2.1).length ≤ t.length := by
        simp only [List.length_drop, List.length_cons]; omega
      rw [parF_more t.length ((x :: t).drop (nx (x :: t)).2.1).length _ [] hd (Nat.le_refl _), parF_more t.length ((x :: t).drop (nx (x :: t)).2.1).length _ (lbl ++ [(nx (x :: t)).1]) hd (Nat.le_refl _)]
theorem parP_txt : ∀ (x lbl r : Bs), parP (txt x ++ 46 :: r) lbl = (parP r []).map ((lbl ++ x) :: ·)
  | [], lbl, r => by
    show parP (46 :: r) lbl = _
    rw [parP_step lbl (by simp), nx_dot]; simp
  | c :: x, lbl, r => by
    have hl := (esc_len c).1
    have hne : txt (c :: x) ++ 46 :: r ≠ [] := by
      intro h; have := congrArg List.length h; rw [txt_cons] at this; simp at this
    rw [parP_step lbl hne, txt_cons, List.append_assoc, nx_esc, if_neg (by simp only; omega)]
    simp only [Bool.false_eq_true, if_false, List.drop_left]
    rw [parP_txt x (lbl ++ [c]) r, List.append_assoc]; rfl
theorem parP_lbls : ∀ L : List Bs, parP (lbls L) [] = some L
  | [] => rfl
  | x :: L => by rw [lbls_cons, parP_txt, parP_lbls L]; simp
/-- the labels that the document's reading finds -/
def numR (a b c : UInt8) : UInt8 := UInt8.ofNat ((100 * ((a.toNat : Int) - 48) + 10 * ((b.toNat : Int) - 48) + (c.toNat : Int) - 48) % 256).toNat
def rxE : Bs → Option UInt8 × Nat
  | [] => (some 92, 1)
  | y :: r => if y = 46 ∨ y = 92 then (some y, 2) else match r with
    | a :: b :: _ => (some (numR y a b), 4)
    | _ => (some 92, 1)
def rx : Bs → Option UInt8 × Nat
  | [] => (none, 1)
  | x :: t => if x = 46 then (none, 1) else if x = 92 then rxE t else (some x, 1)
theorem rx_cons (x : UInt8) (t : Bs) : rx (x :: t) = if x = 46 then (none, 1) else if x = 92 then rxE t else (some x, 1) := rfl
theorem rxE_cons (y : UInt8) (r : Bs) : rxE (y :: r) = if y = 46 ∨ y = 92 then (some y, 2) else match r with
    | a :: b :: _ => (some (numR y a b), 4)
    | _ => (some 92, 1) := rfl
theorem rx_pos (s : Bs) : 1 ≤ (rx s).2 := by
  cases s with
  | nil => simp [rx]
  | cons x t =>
    rw [rx_cons]
    split
    · simp
    · split
      · cases t with
        | nil => simp [rxE]
        | cons y r =>
          rw [rxE_cons]
          split
          · simp
          · split <;> simp
      · simp
def rarF : Nat → Bs → Bs → List Bs
  | _, [], _ => []
  | 0, _ :: _, _ => []
  | f + 1, x :: t, lbl => match (rx (x :: t)).1 with
    | none => lbl :: rarF f ((x :: t).drop (rx (x :: t)).2) []
    | some c => rarF f ((x :: t).drop (rx (x :: t)).2) (lbl ++ [c])
theorem rarF_more : ∀ (f g : Nat) (s lbl : Bs), s.length ≤ f → s.length ≤ g → rarF f s lbl = rarF g s lbl := by
  intro f
  induction f with
  | zero =>
    intro g s lbl h1 h2
    have : s = [] := List.eq_nil_of_length_eq_zero (by omega)
    subst this
    cases g <;> rfl
  | succ f ih =>
    intro g s lbl h1 h2
    cases s with
    | nil => cases g <;> rfl
    | cons x t =>
      cases g with
      | zero => simp at h2
      | succ g =>
        simp only [List.length_cons] at h1 h2
        have hp := rx_pos (x :: t)
        have hd : ((x :: t).drop (rx (x :: t)).2).length ≤ t.length := by
          simp only [List.length_drop, List.length_cons]; omega
        simp only [rarF]
        rw [ih g _ [] (by omega) (by omega)]
        split
        · rfl
        · exact ih g _ _ (by omega) (by omega)
def parR (s lbl : Bs) : List Bs := rarF s.length s lbl
theorem parR_nil (lbl : Bs) : parR [] lbl = [] := rfl
theorem parR_step {s : Bs} (lbl : Bs) (h : s ≠ []) : parR s lbl = match (rx s).1 with | none => lbl :: parR (s.drop (rx s).2) [] | some c => parR (s.drop (rx s).2) (lbl ++ [c]) := by
  cases s with
  | nil => exact absurd rfl h
  | cons x t =>
    have hp := rx_pos (x :: t)
    have hd : ((x :: t).drop (rx (x :: t)).2).length ≤ t.length := by
      simp only [List.length_drop, List.length_cons]; omega
    unfold parR
    show rarF (t.length + 1) (x :: t) lbl = _
    simp only [rarF]
    split
    · rename_i e
      rw [rarF_more t.length ((x :: t).drop (rx (x :: t)).2).length _ [] hd (Nat.le_refl _)]
    · rename_i c e
      rw [rarF_more t.length ((x :: t).drop (rx (x :: t)).2).length _ _ hd (Nat.le_refl _)]
theorem rx_esc (c : UInt8) (r : Bs) : rx (esc c ++ r) = (some c, (esc c).length) := by
  unfold esc
  split
  · rename_i h
    rcases h with rfl | rfl <;> rfl
  · rename_i h
    split
    · have hc := c.toNat_lt
      have hs : 100 * (c.toNat / 100) + 10 * (c.toNat / 10 % 10) + c.toNat % 10 = c.toNat := by omega
      have hA : c.toNat / 100 ≤ 2 := by omega
      have hB : c.toNat / 10 % 10 ≤ 9 := by omega
      have hC : c.toNat % 10 ≤ 9 := by omega
      generalize c.toNat / 100 = A at *
      generalize c.toNat / 10 % 10 = B at *
      generalize c.toNat % 10 = C at *
      have e1 : (dig A).toNat = 48 + A := by rw [dig, UInt8.toNat_ofNat']; omega
      have e2 : (dig B).toNat = 48 + B := by rw [dig, UInt8.toNat_ofNat']; omega
      have e3 : (dig C).toNat = 48 + C := by rw [dig, UInt8.toNat_ofNat']; omega
      have n1 : ¬ (dig A = 46 ∨ dig A = 92) := by
        rintro (h' | h')
        · rw [h'] at e1; have : (46 : UInt8).toNat = 46 := rfl; omega
        · rw [h'] at e1; have : (92 : UInt8).toNat = 92 := rfl; omega
      have en : numR (dig A) (dig B) (dig C) = c := by
        apply UInt8.toNat_inj.1
        rw [numR, e1, e2, e3, UInt8.toNat_ofNat']; omega
      rw [List.cons_append, rx_cons, if_neg (by decide), if_pos rfl]
      simp only [List.cons_append, List.nil_append]
      rw [rxE_cons, if_neg n1]
      show (some (numR (dig A) (dig B) (dig C)), 4) = _
      rw [en]; rfl
    · rw [List.cons_append, rx_cons, if_neg (fun e => h (.inl e)), if_neg (fun e => h (.inr e))]; rfl
theorem parR_txt : ∀ (x lbl r : Bs), parR (txt x ++ 46 :: r) lbl = (lbl ++ x) :: parR r []
  | [], lbl, r => by
    have hr : rx (46 :: r) = (none, 1) := rfl
    show parR (46 :: r) lbl = _
    rw [parR_step lbl (by simp), hr]; simp
  | c :: x, lbl, r => by
    have hne : txt (c :: x) ++ 46 :: r ≠ [] := by
      intro h; have := congrArg List.length h; rw [txt_cons] at this; simp at this
    rw [parR_step lbl hne, txt_cons, List.append_assoc, rx_esc]
    simp only [List.drop_left]
    rw [parR_txt x (lbl ++ [c]) r, List.append_assoc]; rfl
theorem parR_lbls : ∀ L : List Bs, parR (lbls L) [] = L
  | [] => rfl
  | x :: L => by rw [lbls_cons, parR_txt, parR_lbls L]; simp
/-- are labels a name, whose text is s? -/
def isTxt (L : List Bs) (s : Bs) : Bool := jnB L && (prnL L == s)
theorem jnB_cut {L : List Bs} (h : jnB L = true) : cutB (jn L) = true ∧ cutL (jn L) = L := by
  simp only [jnB, Bool.and_eq_true, decide_eq_true_eq] at h
  exact cut_of h.2 (jn_lab L h.1)
theorem prn_jn {L : List Bs} (h : jnB L = true) : prnS (jn L) = prnL L ∧ prnC (jn L) = 0 := by
  obtain ⟨h1, h2⟩ := jnB_cut h
  rw [prnS, prnC, h1, h2]; exact ⟨rfl, rfl⟩
def parO (s : Bs) : Option Bs := if s = [46] then some [] else match parP s [] with | none => none | some L => if isTxt L s then some (jn L) else none
def parO' (s : Bs) : Option Bs := if s = [46] then some [] else if 2000 < s.length then none else if isTxt (parR s []) s then some (jn (parR s [])) else none
theorem isTxt_lbls {L : List Bs} {s : Bs} (h : isTxt L s = true) (hs : s ≠ [46]) : s = lbls L ∧ jnB L = true ∧ s.length ≤ 2000 := by
  simp only [isTxt, Bool.and_eq_true, beq_iff_eq] at h
  obtain ⟨h1, h2⟩ := h
  have hL : L ≠ [] := by rintro rfl; rw [prnL, if_pos rfl] at h2; exact hs h2.symm
  rw [prnL, if_neg hL] at h2
  refine ⟨h2.symm, h1, ?_⟩
  have := lbls_len2 L
  simp only [jnB, Bool.and_eq_true, decide_eq_true_eq] at h1
  rw [← h2]; omega
theorem par_same (s : Bs) : parO' s = parO s := by
  unfold parO parO'
  by_cases hs : s = [46]
  · rw [if_pos hs, if_pos hs]
  rw [if_neg hs, if_neg hs]
  cases hR : isTxt (parR s []) s with
  | true =>
    obtain ⟨h1, h2, h3⟩ := isTxt_lbls hR hs
    have hp : parP s [] = some (parR s []) := by
      conv => lhs; rw [h1]
      exact parP_lbls _
    rw [hp, if_neg (by omega)]
    simp only [hR]
  | false =>
    have e : (if 2000 < s.length then none else if false = true then some (jn (parR s [])) else none) = (none : Option Bs) := by split <;> simp
    rw [e]
    cases hP : parP s [] with
    | none => rfl
    | some L =>
      simp only
      cases hL : isTxt L s with
      | false => rfl
      | true =>
        obtain ⟨h1, h2, h3⟩ := isTxt_lbls hL hs
        have : parR s [] = L := by rw [h1]; exact parR_lbls L
        rw [this, hL] at hR; cases hR
def parS (s : Bs) : Bs := (parO s).getD []
def parC (s : Bs) : Int := if (parO s).isSome then 0 else 2
/-- what is printed is parsed -/
theorem par_prn {n : Bs} (h : cutB n = true) : parS (prnS n) = n ∧ parC (prnS n) = 0 := by
  obtain ⟨h1, h2⟩ := cut_lab h
  obtain ⟨h3, h4⟩ := lab_jn n _ h2
  have hB : jnB (cutL n) = true := by rw [jnB, h4, h3, decide_eq_true h1]; rfl
  have hp : parO (prnS n) = some n := by
    rw [prnS, h, if_pos rfl, prnL]
    by_cases hL : cutL n = []
    · rw [if_pos hL, parO, if_pos rfl]
      rw [hL] at h3; rw [← h3]; rfl
    · rw [if_neg hL]
      have hs : lbls (cutL n) ≠ [46] := by
        intro e
        obtain ⟨x, L, hx⟩ := List.exists_cons_of_ne_nil hL
        rw [hx, lbls_cons] at e
        have := congrArg List.length e
        have h5 := (List.all_eq_true.1 h4) x (by rw [hx]; simp)
        have := (lblOk_iff.1 h5).1
        have := (txt_len x).1
        simp at *; omega
      rw [parO, if_neg hs, parP_lbls]
      have : isTxt (cutL n) (lbls (cutL n)) = true := by rw [isTxt, hB, prnL, if_neg hL]; simp
      simp only [this, if_true, h3]
  rw [parS, parC, hp]; exact ⟨rfl, rfl⟩
/-- what is parsed is printed to the same text -/
theorem prn_par {s n : Bs} (h : parO s = some n) : prnS n = s ∧ prnC n = 0 := by
  unfold parO at h
  by_cases hs : s = [46]
  · rw [if_pos hs] at h; cases h; subst hs; exact ⟨rfl, rfl⟩
  rw [if_neg hs] at h
  cases hP : parP s [] with
  | none => rw [hP] at h; cases h
  | some L =>
    rw [hP] at h
    simp only at h
    cases hL : isTxt L s with
    | false => rw [hL] at h; cases h
    | true =>
      rw [hL, if_pos rfl] at h; cases h
      simp only [isTxt, Bool.and_eq_true, beq_iff_eq] at hL
      rw [(prn_jn hL.1).1, (prn_jn hL.1).2]; exact ⟨hL.2, rfl⟩
end Go.Proofs.Ytijmbpokglohbaa
