/-
  Writing messages: sizes and flags, plain laws.
-/
import Derived.Test.YtgdejgfmhndbhaaWrD
import Derived.Test.YtgdejgfmhndbhaaMsF
namespace Go.Proofs.Ytgdejgfmhndbhaa
open Go.RowKit Go.Maps
set_option linter.unusedSimpArgs false
set_option linter.unusedVariables false
variable {B : Nat}
theorem orI (x y k q : Nat) (hx : x = 2 ^ k * q) (hy : y < 2 ^ k) (h1 : x < 65536) (h2 : y < 65536) : bits .or .i64 (x : Int) (y : Int) = ((x + y : Nat) : Int) := by
  rw [bits_or_i64 x y (by omega) (by omega), hx, Nat.two_pow_add_eq_or_of_lt hy]
theorem b2n_or (b : Bool) (n : Nat) : b2n b n = 0 ∨ b2n b n = n := by cases b <;> simp [b2n]
theorem flg_or (re au tr wa av : Bool) (o c : Nat) (ho : o ≤ 15) (hc : c ≤ 15) :
    bits .or .i64 (bits .or .i64 (bits .or .i64 (bits .or .i64 (bits .or .i64 (bits .or .i64 ((b2n re 32768 : Nat) : Int) ((o : Int) * 2048)) ((b2n au 1024 : Nat) : Int)) ((b2n tr 512 : Nat) : Int)) ((b2n wa 256 : Nat) : Int)) ((b2n av 128 : Nat) : Int)) (c : Int) =
      ((b2n re 32768 + 2048 * o + b2n au 1024 + b2n tr 512 + b2n wa 256 + b2n av 128 + c : Nat) : Int) := by
  obtain ⟨r, hr⟩ : ∃ x, b2n re 32768 = x := ⟨_, rfl⟩
  obtain ⟨a, ha⟩ : ∃ x, b2n au 1024 = x := ⟨_, rfl⟩
  obtain ⟨t, ht⟩ : ∃ x, b2n tr 512 = x := ⟨_, rfl⟩
  obtain ⟨w, hw⟩ : ∃ x, b2n wa 256 = x := ⟨_, rfl⟩
  obtain ⟨v, hv⟩ : ∃ x, b2n av 128 = x := ⟨_, rfl⟩
  have r1 := b2n_or re 32768
  have a1 := b2n_or au 1024
  have t1 := b2n_or tr 512
  have w1 := b2n_or wa 256
  have v1 := b2n_or av 128
  rw [hr] at r1 ⊢
  rw [ha] at a1 ⊢
  rw [ht] at t1 ⊢
  rw [hw] at w1 ⊢
  rw [hv] at v1 ⊢
  clear hr ha ht hw hv
  have e0 : (o : Int) * 2048 = ((2048 * o : Nat) : Int) := by omega
  rw [e0]
  rw [orI r (2048 * o) 15 (r / 32768) (by omega) (by omega) (by omega) (by omega)]
  rw [orI (r + 2048 * o) a 11 ((r + 2048 * o) / 2048) (by omega) (by omega) (by omega) (by omega)]
  rw [orI (r + 2048 * o + a) t 10 ((r + 2048 * o + a) / 1024) (by omega) (by omega) (by omega) (by omega)]
  rw [orI (r + 2048 * o + a + t) w 9 ((r + 2048 * o + a + t) / 512) (by omega) (by omega) (by omega) (by omega)]
  rw [orI (r + 2048 * o + a + t + w) v 8 ((r + 2048 * o + a + t + w) / 256) (by omega) (by omega) (by omega) (by omega)]
  rw [orI (r + 2048 * o + a + t + w + v) c 7 ((r + 2048 * o + a + t + w + v) / 128) (by omega) (by omega) (by omega) (by omega)]
theorem flg_lt (m : Msg) (ho : m.op ≤ 15) (hc : m.rc ≤ 15) : flg m < 65536 := by
  have r1 := b2n_or m.re 32768
  have a1 := b2n_or m.au 1024
  have t1 := b2n_or m.tr 512
  have w1 := b2n_or m.wa 256
  have v1 := b2n_or m.av 128
  unfold flg
  omega
/-! ### sizes -/
theorem data_len {r : Rc} (h : r.Good) (s : Wr) : (dataW r s).b.length ≤ s.b.length + r.d.length + 4 ∧ s.b.length + 2 ≤ (dataW r s).b.length := by
  rw [data_eq]
  have := body_len h (s.add (wd2 0))
  simp only [set2_len]
  simp [Wr.add, wd2] at this ⊢
  omega
theorem rec_len {r : Rc} (h : r.Good) (s : Wr) : (recW r s).b.length ≤ s.b.length + r.nm.length + r.d.length + 13 ∧ s.b.length + 10 ≤ (recW r s).b.length := by
  unfold recW
  have h1 := nameW_len s h.nm
  have h2 := data_len h ((((nameW r.nm s).add (wd2 r.ty.toNat)).add (wd2 1)).add (w4 r.tl.toNat))
  simp [Wr.add, wd2, w4] at h2 ⊢
  omega
theorem rec_le {r : Rc} (h : r.Good) (s : Wr) : (recW r s).b.length ≤ s.b.length + 5000 := by
  have h1 := (rec_len h s).1
  have h2 := (cut_lab h.nm).1
  have h3 := h.len
  omega
theorem recs_snoc {l : List Rc} {i : Nat} {x : Rc} (hx : l[i]? = some x) (s : Wr) : recsW (l.take (i + 1)) s = recW x (recsW (l.take i) s) := by
  rw [recsW, List.take_add_one, hx, List.foldl_append]; rfl
theorem qus_snoc {l : List Qn} {i : Nat} {x : Qn} (hx : l[i]? = some x) (s : Wr) : qusW (l.take (i + 1)) s = quW x (qusW (l.take i) s) := by
  rw [qusW, List.take_add_one, hx, List.foldl_append]; rfl
theorem recs_le : ∀ {l : List Rc} (s : Wr), l.all Rc.ok = true → (recsW l s).b.length ≤ s.b.length + 5000 * l.length
  | [], s, _ => by simp [recsW]
  | r :: l, s, h => by
    simp only [List.all_cons, Bool.and_eq_true] at h
    have h1 := rec_le (Rc.good h.1) s
    have h2 := recs_le (l := l) (recW r s) h.2
    have e : recsW (r :: l) s = recsW l (recW r s) := rfl
    rw [e, List.length_cons]
    omega
theorem qu_le {q : Qn} (h : q.ok = true) (s : Wr) : (quW q s).b.length ≤ s.b.length + 300 := by
  simp only [Qn.ok, Bool.and_eq_true] at h
  have h1 := nameW_len s h.1
  have h2 := (cut_lab h.1).1
  unfold quW
  simp [Wr.add, wd2]
  omega
theorem qus_le : ∀ {l : List Qn} (s : Wr), l.all Qn.ok = true → (qusW l s).b.length ≤ s.b.length + 300 * l.length
  | [], s, _ => by simp [qusW]
  | r :: l, s, h => by
    simp only [List.all_cons, Bool.and_eq_true] at h
    have h1 := qu_le h.1 s
    have h2 := qus_le (l := l) (quW r s) h.2
    have e : qusW (r :: l) s = qusW l (quW r s) := rfl
    rw [e, List.length_cons]
    omega
theorem all_at {α : Type} {p : α → Bool} {l : List α} (h : l.all p = true) {i : Nat} {x : α} (hx : l[i]? = some x) : p x = true := List.all_eq_true.1 h x (List.mem_of_getElem? hx)
theorem all_tk {α : Type} {p : α → Bool} {l : List α} (h : l.all p = true) (i : Nat) : (l.take i).all p = true := List.all_eq_true.2 fun x hx => List.all_eq_true.1 h x (List.mem_of_mem_take hx)
structure Msg.Ok (m : Msg) : Prop where
  id : 0 ≤ m.id ∧ m.id ≤ 65535
  op : 0 ≤ m.op ∧ m.op ≤ 15
  rc : 0 ≤ m.rc ∧ m.rc ≤ 15
  sz : m.sz = 0 ∨ (512 ≤ m.sz ∧ m.sz ≤ 65535)
  qs : m.qs.length ≤ 10 ∧ m.qs.all Qn.ok = true
  an : m.an.length ≤ 200 ∧ m.an.all Rc.ok = true
  ns : m.ns.length ≤ 200 ∧ m.ns.all Rc.ok = true
  ex : m.ex.length ≤ 200 ∧ m.ex.all Rc.ok = true
theorem msg_ok {m : Msg} (h : msgB m = true) : m.Ok := by
  simp only [msgB, headB, szB, mayB, Bool.and_eq_true, Bool.or_eq_true, decide_eq_true_eq] at h
  obtain ⟨⟨⟨h1, h2, h3, h4⟩, h5⟩, h6, h7, h8⟩ := h
  exact ⟨h1, h2, h3, h4, h5, h6, h7, h8⟩
theorem wrm_new (w1 : World) (hB : B ≤ w1.heap.size) : WrM B ((w1.alloc (.map #[] 0)).alloc (.cells #[.slice none 0 0, .map (some w1.heap.size)] 57 (0, 0))) (w1.heap.size + 1) ⟨[], []⟩ := by
  refine ⟨⟨List.Pairwise.nil, fun p hp => absurd hp List.not_mem_nil, Nat.le_refl _⟩, .slice none 0 0, w1.heap.size, 0, .map [], ?_, BR.none0 _ _ _, ?_, fun x => ⟨rfl, rfl⟩, ⟨by omega, hB, fun k hk => by cases hk⟩, Nat.le_refl _⟩
  · exact alloc_last _ _ _ (by simp)
  · exact (World.ownsMap_made w1 Try.prog 39 (plainElem Try.prog 3)).alloc _
end Go.Proofs.Ytgdejgfmhndbhaa
