/-
  Folding, plainly: large letters made small; what labels joined are; a name's labels folded and joined.
  A text with small letters: the program's, the document's.
  strings.Builder.
  The name of labels: the program's Join.
  The name of labels: the document's Join.
  A name folded: the program's, the document's.
  Orders, plainly: bytes, texts, lists of labels, names; what stands between two names under a name.
  A name's text, plainly: printed, parsed; the program's reading and the document's tell the same.
-/
import Derived.Test.YtgdejgfmhndbhaaKa
import Derived.Test.YtgdejgfmhndbhaaKc
import Derived.Test.YtgdejgfmhndbhaaKb
import GoSem.Op.String
namespace Go.Proofs.Ytgdejgfmhndbhaa
set_option linter.unusedSimpArgs false
set_option linter.unusedVariables false
def big (c : UInt8) : Bool := decide (65 ≤ c.toNat) && decide (c.toNat ≤ 90)
def sm1 (c : UInt8) : UInt8 := if big c then c + 32 else c
def smS (s : Bs) : Bs := s.map sm1
def jn (l : List Bs) : Bs := l.flatMap fun x => UInt8.ofNat x.length :: x
def lblOk (x : Bs) : Bool := decide (1 ≤ x.length) && decide (x.length ≤ 63)
theorem jn_nil : jn [] = [] := rfl
theorem jn_cons (x : Bs) (l : List Bs) : jn (x :: l) = UInt8.ofNat x.length :: (x ++ jn l) := rfl
theorem jn_app (a b : List Bs) : jn (a ++ b) = jn a ++ jn b := by simp [jn]
theorem jn_one (x : Bs) : jn [x] = UInt8.ofNat x.length :: x := by simp [jn]
theorem jn_snoc (l : List Bs) (x : Bs) : jn (l ++ [x]) = jn l ++ (UInt8.ofNat x.length :: x) := by rw [jn_app, jn_one]
theorem lblOk_iff {x : Bs} : lblOk x = true ↔ 1 ≤ x.length ∧ x.length ≤ 63 := by simp [lblOk]
theorem lab_jn : ∀ s : Bs, ∀ l, lab s = some l → jn l = s ∧ l.all lblOk = true := by
  apply lab_ind (P := fun s => ∀ l, lab s = some l → jn l = s ∧ l.all lblOk = true)
  · intro l h; cases h; exact ⟨rfl, rfl⟩
  · intro k t hok ih l h
    rw [lab_cons, if_pos hok] at h
    obtain ⟨h1, h2, h3⟩ := okL_iff.1 hok
    cases hl : lab (t.drop k.toNat) with
    | none => rw [hl] at h; cases h
    | some m =>
      rw [hl] at h; simp only [Option.map_some, Option.some.injEq] at h; subst h
      obtain ⟨i1, i2⟩ := ih m hl
      have hlen : (t.take k.toNat).length = k.toNat := by simp; omega
      refine ⟨?_, ?_⟩
      · rw [jn_cons, i1, hlen, UInt8.ofNat_toNat, List.take_append_drop]
      · rw [List.all_cons, i2, Bool.and_true, lblOk_iff, hlen]; exact ⟨h1, h2⟩
  · intro k t hok l h
    rw [lab_cons, if_neg (by rw [hok]; decide)] at h; cases h
theorem lbls_len : ∀ l : List Bs, l.all lblOk = true → l.length * 2 ≤ (jn l).length
  | [], _ => Nat.le_refl _
  | x :: l, h => by
    rw [List.all_cons, Bool.and_eq_true] at h
    have := lbls_len l h.2
    have := (lblOk_iff.1 h.1).1
    rw [jn_cons]; simp only [List.length_cons, List.length_append]; omega
def jnB (l : List Bs) : Bool := l.all lblOk && decide ((jn l).length ≤ 254)
def jnS (l : List Bs) : Bs := if jnB l then jn l else []
def jnC (l : List Bs) : Int := if jnB l then 0 else 1
def fold (s : Bs) : Bs := if cutB s then smS s else s
theorem cut_lab {s : Bs} (h : cutB s = true) : s.length ≤ 254 ∧ lab s = some (cutL s) := by
  unfold cutB cutO at h
  by_cases hs : 254 < s.length
  · rw [if_pos hs] at h; cases h
  · rw [if_neg hs] at h
    refine ⟨by omega, ?_⟩
    unfold cutL cutO
    rw [if_neg hs]
    cases hl : lab s with
    | none => rw [hl] at h; cases h
    | some l => rfl
end Go.Proofs.Ytgdejgfmhndbhaa

namespace Go.Proofs.Ytgdejgfmhndbhaa
open Go.RowKit
set_option linter.unusedSimpArgs false
set_option linter.unusedVariables false
end Go.Proofs.Ytgdejgfmhndbhaa

namespace Go.Proofs.Ytgdejgfmhndbhaa
open Go.RowKit
set_option linter.unusedSimpArgs false
set_option linter.unusedVariables false
abbrev U8 : TypeId := 5
end Go.Proofs.Ytgdejgfmhndbhaa

namespace Go.Proofs.Ytgdejgfmhndbhaa
open Go.RowKit
set_option linter.unusedSimpArgs false
set_option linter.unusedVariables false
def SR (w : World) (ao : Option Addr) (L : List Bs) : Prop := L = [] ∨ ∃ g o, ao = some ⟨g, o, none⟩ ∧ g < w.heap.size ∧ ∀ (i : Nat) x, L[i]? = some x → w.cell? ⟨g, o + i, none⟩ = some (.string ⟨x.toArray⟩)
theorem SR.some {w : World} {ao : Option Addr} {L : List Bs} (h : SR w ao L) {k : Nat} (hk : k < L.length) : ∃ g o, ao = some ⟨g, o, none⟩ ∧ g < w.heap.size ∧ ∀ (i : Nat) x, L[i]? = some x → w.cell? ⟨g, o + i, none⟩ = some (.string ⟨x.toArray⟩) := by
  rcases h with rfl | h
  · simp at hk
  · exact h
theorem SR.below {w w' : World} {ao : Option Addr} {L : List Bs} (h : SR w ao L) (hb : Below w.heap.size w w') : SR w' ao L := by
  rcases h with rfl | ⟨g, o, h1, h2, h3⟩
  · exact .inl rfl
  · exact .inr ⟨g, o, h1, Nat.lt_of_lt_of_le h2 hb.size, fun i x hx => by rw [hb.cell (p := ⟨g, o + i, none⟩) h2]; exact h3 i x hx⟩
theorem SR.up {w w' : World} {ao : Option Addr} {L : List Bs} (h : SR w ao L) (hb : Upd0 w w') : SR w' ao L := h.below (hb.below (Nat.le_refl _) (fun _ h => h.elim))
theorem jnB_no {L : List Bs} {k : Nat} {x : Bs} (hx : L[k]? = some x) (h : lblOk x = false) : jnS L = [] ∧ jnC L = 1 := by
  have : jnB L = false := by
    cases hb : jnB L
    · rfl
    · exfalso
      simp only [jnB, Bool.and_eq_true] at hb
      have := List.all_eq_true.1 hb.1 x (List.mem_of_getElem? hx)
      rw [h] at this; cases this
  rw [jnS, jnC, this]; exact ⟨rfl, rfl⟩
theorem jnB_long {L : List Bs} (h : 254 < (jn L).length) : jnS L = [] ∧ jnC L = 1 := by
  have : jnB L = false := by rw [jnB, decide_eq_false (by omega), Bool.and_false]
  rw [jnS, jnC, this]; exact ⟨rfl, rfl⟩
theorem jnB_yes {L : List Bs} (h : L.all lblOk = true) (h2 : (jn L).length ≤ 254) : jnS L = jn L ∧ jnC L = 0 := by
  have : jnB L = true := by rw [jnB, h, decide_eq_true h2]; rfl
  rw [jnS, jnC, this]; exact ⟨rfl, rfl⟩
theorem all_snoc {L : List Bs} {k : Nat} {x : Bs} (h : (L.take k).all lblOk = true) (hx : L[k]? = some x) (ho : lblOk x = true) : (L.take (k + 1)).all lblOk = true ∧ jn (L.take (k + 1)) = jn (L.take k) ++ [UInt8.ofNat x.length] ++ x := by
  have hk : k < L.length := (List.getElem?_eq_some_iff.1 hx).1
  have e : L.take (k + 1) = L.take k ++ [x] := by rw [List.take_succ_eq_append_getElem hk]; congr 2; exact (List.getElem?_eq_some_iff.1 hx).2
  rw [e, List.all_append, h, jn_snoc]
  exact ⟨by simp [ho], by simp⟩
end Go.Proofs.Ytgdejgfmhndbhaa

namespace Go.Proofs.Ytgdejgfmhndbhaa
open Go.RowKit
set_option linter.unusedSimpArgs false
set_option linter.unusedVariables false
theorem jnB_many {L : List Bs} (h : 127 < L.length) : jnS L = [] ∧ jnC L = 1 := by
  have : jnB L = false := by
    cases hb : jnB L
    · rfl
    · exfalso
      simp only [jnB, Bool.and_eq_true, decide_eq_true_eq] at hb
      have := lbls_len L hb.1; omega
  rw [jnS, jnC, this]; exact ⟨rfl, rfl⟩
theorem one_br {W : World} {b n : Nat} (h : W.heap[b]? = some (.cells #[.int .u8 n] U8 (0, 0))) (hn : n < 256) : BR U8 0 W (.slice (some ⟨b, 0, none⟩) 1 1) [UInt8.ofNat n] :=
  .inr ⟨b, 1, _, _, rfl, Nat.zero_le _, h, .inl (Nat.le_refl _), Nat.le_refl _, by decide, rfl, by simp [byt, UInt8.toNat_ofNat']; omega⟩
set_option maxRecDepth 100000 in
set_option maxHeartbeats 1000000 in
theorem rjoin_w (ao : Option Addr) (cap : Nat) (L : List Bs) (w : World) (hS : SR w ao L) (hm : L.length ≤ 1000000) : Calls Try.prog 60 #[.slice ao L.length cap] w (Rets fun r w' => r = .tuple #[.string ⟨(jnS L).toArray⟩, .int .i64 (jnC L)] ∧ Upd0 w w') := by
  rcases Nat.lt_or_ge 127 L.length with hmany | hfew
  · have hf := Lib.hid (jnB_many hmany)
    go_enter Try.func60, Try.ntmps60
    go_wp2_with (first | (with_reducible refine wp_serial (by kernel_rfl) (by kernel_rfl) (by repeat with_reducible (first | apply NoBad.then | apply NoBad.inBlock | apply NoBad.jump | exact NoBad.rets)) ?_) | fail)
    all_goals go_returns
    all_goals exact ⟨by rw [hf.out.1, hf.out.2]; rfl, (by repeat first | with_reducible (first | exact Upd.refl _ _ | assumption | apply Upd.drew | apply Upd.alloc) | refine Upd0.tr ?_ (by with_reducible assumption) | refine Upd.setCell ?_ (fun h => absurd h (by first | exact Nat.lt_irrefl _ | (simp only []; omega))) _)⟩
  go_enter Try.func60, Try.ntmps60
  go_wp2_with (first | (with_reducible refine wp_serial (by kernel_rfl) (by kernel_rfl) (by repeat with_reducible (first | apply NoBad.then | apply NoBad.inBlock | apply NoBad.jump | exact NoBad.rets)) ?_) | fail)
  go_loopw [4, 5] (fun s i wr => ∃ (k : Nat) (q : Bs), k ≤ L.length ∧ i = .int .i64 k ∧ s = .string ⟨q.toArray⟩ ∧ q.length ≤ 64 * k ∧ Hid (q = jn (L.take k) ∧ (L.take k).all lblOk = true) ∧ Upd0 w wr) (fun _ i _ => L.length - (intOf i).toNat)
  case atStart => exact ⟨0, [], Nat.zero_le _, rfl, rfl, by simp, Lib.hid ⟨by simp [jn], rfl⟩, Upd.refl _ _⟩
  case round =>
    obtain ⟨k, q, hk, rfl, rfl, hql, hq, hu⟩ := hrel
    by_cases hlt : k < L.length
    · obtain ⟨g, o, rfl, hg, hcs⟩ := (hS.up hu).some hlt
      obtain ⟨x, hx⟩ : ∃ x, L[k]? = some x := ⟨L[k], List.getElem?_eq_getElem hlt⟩
      have hc := hcs k x hx
      clear hcs
      cases ho : lblOk x with
      | false =>
        have hf := Lib.hid (jnB_no hx ho)
        have hxl : x.length < 1 ∨ (1 ≤ x.length ∧ 63 < x.length) := by
          rcases Nat.lt_or_ge x.length 1 with h | h
          · exact .inl h
          · refine .inr ⟨h, ?_⟩
            rcases Nat.lt_or_ge 63 x.length with h' | h'
            · exact h'
            · rw [lblOk_iff.2 ⟨h, h'⟩] at ho; cases ho
        clear hx ho
        rcases hxl with ht | ⟨ht, ht2⟩
        all_goals
          go_wp2_with (first | (with_reducible refine wp_serial (by kernel_rfl) (by kernel_rfl) (by repeat with_reducible (first | apply NoBad.then | apply NoBad.inBlock | apply NoBad.jump | exact NoBad.rets)) ?_) | fail)
          all_goals go_returns
          all_goals exact ⟨by rw [hf.out.1, hf.out.2]; rfl, (by repeat first | with_reducible (first | exact Upd.refl _ _ | assumption | apply Upd.drew | apply Upd.alloc) | refine Upd0.tr ?_ (by with_reducible assumption) | refine Upd.setCell ?_ (fun h => absurd h (by first | exact Nat.lt_irrefl _ | (simp only []; omega))) _)⟩
      | true =>
        obtain ⟨h1, h2⟩ := lblOk_iff.1 ho
        have hst := Lib.hid (all_snoc hq.out.2 hx ho)
        clear hx ho
        go_wp2_with (first
          | (with_reducible refine wp_serial3_2 0 [] [0, 1, 2, 3, 4, 5, 10, 11, 12, 13] 6 [7] 8 [9, 14, 15] [_, _, _, _, _, _, _, _, _, _] _ [_] _ [_, _, _] (by kernel_rfl) (by decide +kernel) rfl rfl rfl rfl rfl ⟨Nat.zero_le _, fun s hs => absurd hs List.not_mem_nil⟩ (by repeat with_reducible (first | apply NoBad.then | apply NoBad.inBlock | apply NoBad.jump | exact NoBad.rets)) ?_)
          | (refine And.intro (Ext.refl _) ?_)
          | (refine wpList_ofB rfl (.tmp 36) 38 9 rfl 5 Try.underlying38 Try.underlying5 Try.underlying9 rfl (one_br (alloc_last wr _ wr.heap.size rfl) (by omega)) ?_)
          | (with_reducible refine wp_serial (by kernel_rfl) (by kernel_rfl) (by repeat with_reducible (first | apply NoBad.then | apply NoBad.inBlock | apply NoBad.jump | exact NoBad.rets)) ?_)
          | fail)
        go_roundw
        case rel => exact ⟨k + 1, q ++ UInt8.ofNat x.length :: x, by omega, by go_num, rfl, by simp; omega, Lib.hid ⟨by rw [hst.out.2, hq.out.1]; simp, hst.out.1⟩, (by repeat first | with_reducible (first | exact Upd.refl _ _ | assumption | apply Upd.drew | apply Upd.alloc) | refine Upd0.tr ?_ (by with_reducible assumption) | refine Upd.setCell ?_ (fun h => absurd h (by first | exact Nat.lt_irrefl _ | (simp only []; omega))) _)⟩
        case measure => simp [intOf]; omega
    · have htk : L.take k = L := List.take_of_length_le (by omega)
      rw [htk] at hq
      rcases Nat.lt_or_ge 254 (jn L).length with hlong | hshort
      · have hf := Lib.hid (jnB_long hlong)
        have hq2 : 254 < q.length := by rw [hq.out.1]; exact hlong
        go_wp2_with (first | (with_reducible refine wp_serial (by kernel_rfl) (by kernel_rfl) (by repeat with_reducible (first | apply NoBad.then | apply NoBad.inBlock | apply NoBad.jump | exact NoBad.rets)) ?_) | fail)
        all_goals go_returns
        all_goals exact ⟨by rw [hf.out.1, hf.out.2]; rfl, (by repeat first | with_reducible (first | exact Upd.refl _ _ | assumption | apply Upd.drew | apply Upd.alloc) | refine Upd0.tr ?_ (by with_reducible assumption) | refine Upd.setCell ?_ (fun h => absurd h (by first | exact Nat.lt_irrefl _ | (simp only []; omega))) _)⟩
      · have hf := Lib.hid (jnB_yes hq.out.2 hshort)
        have hq2 : q.length ≤ 254 := by rw [hq.out.1]; exact hshort
        go_wp2_with (first | (with_reducible refine wp_serial (by kernel_rfl) (by kernel_rfl) (by repeat with_reducible (first | apply NoBad.then | apply NoBad.inBlock | apply NoBad.jump | exact NoBad.rets)) ?_) | fail)
        all_goals go_returns
        all_goals exact ⟨by rw [hf.out.1, hf.out.2, ← hq.out.1]; rfl, (by repeat first | with_reducible (first | exact Upd.refl _ _ | assumption | apply Upd.drew | apply Upd.alloc) | refine Upd0.tr ?_ (by with_reducible assumption) | refine Upd.setCell ?_ (fun h => absurd h (by first | exact Nat.lt_irrefl _ | (simp only []; omega))) _)⟩
end Go.Proofs.Ytgdejgfmhndbhaa

namespace Go.Proofs.Ytgdejgfmhndbhaa
open Go.RowKit
set_option linter.unusedSimpArgs false
set_option linter.unusedVariables false
theorem strs_get {L : List Bs} {k : Nat} {x : Bs} (h : L[k]? = some x) : (strs L)[k]? = some (.string ⟨x.toArray⟩) := by simp [strs, h]
theorem own_sr {w : World} {B : Nat} {ao : Option Addr} {n cap : Nat} {L : List Bs} (h : w.ownsRow B 9 1 (.slice ao n cap) n (strs L)) (hn : n = L.length) : SR w ao L := by
  cases L with
  | nil => exact .inl rfl
  | cons y t =>
    obtain ⟨g, rfl⟩ := ownsRow_some h (by rw [hn]; simp)
    exact .inr ⟨g, 0, rfl, ownsRow_lt h rfl, fun i x hx => by rw [Nat.zero_add]; exact ownsRow_cell h rfl (strs_get hx)⟩
end Go.Proofs.Ytgdejgfmhndbhaa

namespace Go.Proofs.Ytgdejgfmhndbhaa
set_option linter.unusedSimpArgs false
set_option linter.unusedVariables false
structure Cmp3 {α : Type} (c : α → α → Int) : Prop where
  zero : ∀ a b, c a b = 0 ↔ a = b
  neg : ∀ a b, c b a = - c a b
  lt : ∀ a b d, c a b = -1 → c b d = -1 → c a d = -1
  one : ∀ a b, c a b = -1 ∨ c a b = 0 ∨ c a b = 1
theorem Cmp3.refl {α : Type} {c : α → α → Int} (h : Cmp3 c) (a : α) : c a a = 0 := (h.zero a a).2 rfl
theorem Cmp3.trans {α : Type} {c : α → α → Int} (h : Cmp3 c) {a b d : α} (h1 : c a b ≤ 0) (h2 : c b d ≤ 0) : c a d ≤ 0 := by
  rcases h.one a b with e | e | e
  · rcases h.one b d with f | f | f
    · have := h.lt a b d e f; omega
    · have := (h.zero b d).1 f; subst this; omega
    · omega
  · have := (h.zero a b).1 e; subst this; exact h2
  · omega
theorem Cmp3.eq {α : Type} {c : α → α → Int} (h : Cmp3 c) {a b : α} (h1 : c a b ≤ 0) (h2 : c b a ≤ 0) : a = b := by
  have := h.neg a b
  exact (h.zero a b).1 (by omega)
def lexC {α : Type} (c : α → α → Int) : List α → List α → Int
  | [], [] => 0
  | [], _ :: _ => -1
  | _ :: _, [] => 1
  | x :: xs, y :: ys => if c x y = 0 then lexC c xs ys else c x y
theorem Cmp3.lex {α : Type} {c : α → α → Int} (h : Cmp3 c) : Cmp3 (lexC c) where
  zero := by
    intro a
    induction a with
    | nil => intro b; cases b <;> simp [lexC]
    | cons x xs ih =>
      intro b
      cases b with
      | nil => simp [lexC]
      | cons y ys =>
        simp only [lexC]
        split
        · rename_i e
          rw [ih, (h.zero x y).1 e]; simp
        · rename_i e
          constructor
          · intro h'; exact absurd h' e
          · intro h'; cases h'; exact absurd (h.refl x) e
  neg := by
    intro a
    induction a with
    | nil => intro b; cases b <;> simp [lexC]
    | cons x xs ih =>
      intro b
      cases b with
      | nil => simp [lexC]
      | cons y ys =>
        have e := h.neg x y
        simp only [lexC]
        by_cases h0 : c x y = 0
        · rw [if_pos h0, if_pos (by omega), ih]
        · rw [if_neg h0, if_neg (by omega), e]
  lt := by
    intro a
    induction a with
    | nil => intro b d h1 h2; cases b <;> cases d <;> simp_all [lexC]
    | cons x xs ih =>
      intro b d h1 h2
      cases b with
      | nil => simp [lexC] at h1
      | cons y ys =>
        cases d with
        | nil => simp [lexC] at h2
        | cons z zs =>
          simp only [lexC] at h1 h2 ⊢
          by_cases e1 : c x y = 0
          · have := (h.zero x y).1 e1; subst this
            rw [if_pos e1] at h1
            by_cases e2 : c x z = 0
            · rw [if_pos e2] at h2 ⊢; exact ih ys zs h1 h2
            · rw [if_neg e2] at h2 ⊢; exact h2
          · rw [if_neg e1] at h1
            by_cases e2 : c y z = 0
            · have := (h.zero y z).1 e2; subst this
              rw [if_neg e1]; exact h1
            · rw [if_neg e2] at h2
              have := h.lt x y z h1 h2
              rw [if_neg (by omega)]; exact this
  one := by
    intro a
    induction a with
    | nil => intro b; cases b <;> simp [lexC]
    | cons x xs ih =>
      intro b
      cases b with
      | nil => simp [lexC]
      | cons y ys =>
        simp only [lexC]
        split
        · exact ih ys
        · exact h.one x y
theorem Cmp3.between {α : Type} {c : α → α → Int} (h : Cmp3 c) : ∀ (p x y z : List α), lexC c x y ≤ 0 → lexC c y z ≤ 0 → p <+: x → p <+: z → p <+: y
  | [], _, _, _, _, _, _, _ => List.nil_prefix
  | q :: p, x, y, z, h1, h2, hx, hz => by
    obtain ⟨x', rfl⟩ := hx
    obtain ⟨z', rfl⟩ := hz
    cases y with
    | nil => simp [lexC] at h1
    | cons w y =>
      simp only [List.cons_append, lexC] at h1 h2
      have hq : q = w := by
        apply h.eq
        · by_cases e : c q w = 0
          · omega
          · rw [if_neg e] at h1; exact h1
        · by_cases e : c w q = 0
          · omega
          · rw [if_neg e] at h2; exact h2
      subst hq
      rw [if_pos (h.refl q)] at h1 h2
      exact List.cons_prefix_cons.2 ⟨rfl, h.between p (p ++ x') y (p ++ z') h1 h2 (List.prefix_append _ _) (List.prefix_append _ _)⟩
theorem joined {a b : Bs} (ha : cutB a = true) (hb : cutB b = true) : (jnB (cutL a ++ cutL b) = true ↔ (a ++ b).length ≤ 254) ∧ jn (cutL a ++ cutL b) = a ++ b := by
  obtain ⟨a1, a2⟩ := cut_lab ha
  obtain ⟨b1, b2⟩ := cut_lab hb
  obtain ⟨a3, a4⟩ := lab_jn a _ a2
  obtain ⟨b3, b4⟩ := lab_jn b _ b2
  have hj : jn (cutL a ++ cutL b) = a ++ b := by rw [jn_app, a3, b3]
  refine ⟨?_, hj⟩
  rw [jnB, hj, List.all_append, a4, b4]; simp
end Go.Proofs.Ytgdejgfmhndbhaa

namespace Go.Proofs.Ytgdejgfmhndbhaa
set_option linter.unusedSimpArgs false
set_option linter.unusedVariables false
def isD (d : UInt8) : Bool := decide (48 ≤ d.toNat) && decide (d.toNat ≤ 57)
def nxE : Bs → UInt8 × Nat × Bool
  | [] => (0, 0, false)
  | y :: r => if y = 46 ∨ y = 92 then (y, 2, false) else match r with
    | a :: b :: _ => if isD y && isD a && isD b && decide (100 * (y.toNat - 48) + 10 * (a.toNat - 48) + (b.toNat - 48) ≤ 255) then (UInt8.ofNat (100 * (y.toNat - 48) + 10 * (a.toNat - 48) + (b.toNat - 48)), 4, false) else (0, 0, false)
    | _ => (0, 0, false)
def nx : Bs → UInt8 × Nat × Bool
  | [] => (0, 0, false)
  | x :: t => if x = 46 then (46, 1, true) else if x = 92 then nxE t else (x, 1, false)
def numR (a b c : UInt8) : UInt8 := UInt8.ofNat ((100 * ((a.toNat : Int) - 48) + 10 * ((b.toNat : Int) - 48) + (c.toNat : Int) - 48) % 256).toNat
def rxE : Bs → Option UInt8 × Nat
  | [] => (some 92, 1)
  | y :: r => if y = 46 ∨ y = 92 then (some y, 2) else match r with
    | a :: b :: _ => (some (numR y a b), 4)
    | _ => (some 92, 1)
def rx : Bs → Option UInt8 × Nat
  | [] => (none, 1)
  | x :: t => if x = 46 then (none, 1) else if x = 92 then rxE t else (some x, 1)
end Go.Proofs.Ytgdejgfmhndbhaa
