/-
  Messages, and how one is written: plain definitions.
  Messages in memory; whether questions and records may be.
  Whether lists of questions and records may be.
  Few, Short, and whether a message may be.
  slices.Clone of questions and of records.
  The document's Same, of records that are the same.
-/
import Derived.Test.YtijmbpokglohbaaKg
import Derived.Test.YtijmbpokglohbaaKd
import Derived.Test.YtijmbpokglohbaaKa
import Derived.Test.YtijmbpokglohbaaKe
import Derived.Lib.SliceRun
namespace Go.Proofs.Ytijmbpokglohbaa
open Go.RowKit
set_option linter.unusedSimpArgs false
set_option linter.unusedVariables false
/-- a record, a question, a message -/
structure Rc where
  nm : Bs
  ty : Int
  tl : Int
  d : Bs
structure Qn where
  nm : Bs
  ty : Int
structure Msg where
  id : Int
  re : Bool
  op : Int
  au : Bool
  tr : Bool
  wa : Bool
  av : Bool
  rc : Int
  qs : List Qn
  an : List Rc
  ns : List Rc
  ex : List Rc
  sz : Int
def Rc.cells (r : Rc) : List Value := [.string ⟨r.nm.toArray⟩, .int .i64 r.ty, .int .i64 r.tl, .string ⟨r.d.toArray⟩]
def Qn.cells (q : Qn) : List Value := [.string ⟨q.nm.toArray⟩, .int .i64 q.ty]
def Rc.val (r : Rc) : Value := .agg #[.string ⟨r.nm.toArray⟩, .int .i64 r.ty, .int .i64 r.tl, .string ⟨r.d.toArray⟩]
def Qn.val (q : Qn) : Value := .agg #[.string ⟨q.nm.toArray⟩, .int .i64 q.ty]
theorem Rc.cells_len (r : Rc) : r.cells.length = 4 := rfl
theorem Qn.cells_len (q : Qn) : q.cells.length = 2 := rfl
/-! ### few -/
def Rc.sh (r : Rc) : Bool := decide (r.nm.length ≤ 300) && decide (r.d.length ≤ 300)
def shB (l : List Rc) : Bool := decide (l.length ≤ 25) && l.all Rc.sh
def fewB (m : Msg) : Bool := decide (m.qs.length ≤ 12) && (m.qs.all fun q => decide (q.nm.length ≤ 300)) && (shB m.an && (shB m.ns && shB m.ex))
/-! ### may it be? -/
def Rc.ok (r : Rc) : Bool := decide (recC r.nm r.ty r.tl r.d = 0)
def Qn.ok (q : Qn) : Bool := cutB q.nm && (decide (1 ≤ q.ty) && (decide (q.ty ≤ 65535) && !decide (q.ty = 41)))
def mayB (l : List Rc) : Bool := decide (l.length ≤ 200) && l.all Rc.ok
def szB (n : Int) : Bool := decide (n = 0) || (decide (512 ≤ n) && decide (n ≤ 65535))
def headB (m : Msg) : Bool := (decide (0 ≤ m.id) && decide (m.id ≤ 65535)) && ((decide (0 ≤ m.op) && decide (m.op ≤ 15)) && ((decide (0 ≤ m.rc) && decide (m.rc ≤ 15)) && szB m.sz))
def msgB (m : Msg) : Bool := headB m && (decide (m.qs.length ≤ 10) && m.qs.all Qn.ok) && (mayB m.an && (mayB m.ns && mayB m.ex))
def msgC (m : Msg) : Int := if msgB m then 0 else 1
/-! ### writing -/
def wd2 (n : Nat) : Bs := [UInt8.ofNat (n / 256), UInt8.ofNat n]
/-- bytes, and where names stand -/
structure Wr where
  b : Bs
  pl : List (Bs × Nat)
def hitP (n : Bs) (p : Bs × Nat) : Bool := decide (p.1 = n) && decide (p.2 < 16384)
def fnd (pl : List (Bs × Nat)) (n : Bs) : Option Nat := (pl.find? (hitP n)).map (·.2)
def Wr.add (w : Wr) (l : Bs) : Wr := ⟨w.b ++ l, w.pl⟩
def nameL : List Bs → Wr → Wr
  | [], w => w.add [0]
  | x :: L, w => match fnd w.pl (jn (x :: L)) with
    | some a => w.add (wd2 (49152 + a))
    | none => nameL L ⟨w.b ++ (UInt8.ofNat x.length :: x), w.pl ++ [(jn (x :: L), w.b.length)]⟩
def nameW (n : Bs) (w : Wr) : Wr := nameL (cutL n) w
/-- the bytes of a record's data, behind the two that tell how many -/
def bodyW (r : Rc) (w : Wr) : Wr :=
  if r.ty = 6 then (nameW (psV r.d).mail (nameW (psV r.d).main w)).add (r.d.drop (r.d.length - 20))
  else if phC r.ty r.d = 0 ∧ r.ty ≠ 33 then nameW (phN r.ty r.d) (w.add (r.d.take (r.d.length - (phN r.ty r.d).length - 1)))
  else w.add r.d
/-- two bytes are written over -/
def set2 (l : Bs) (i n : Nat) : Bs := (l.set i (UInt8.ofNat (n / 256))).set (i + 1) (UInt8.ofNat n)
def dataW (r : Rc) (w : Wr) : Wr :=
  let v := bodyW r (w.add (wd2 0))
  ⟨set2 v.b w.b.length (v.b.length - w.b.length - 2), v.pl⟩
def recW (r : Rc) (w : Wr) : Wr := dataW r ((((nameW r.nm w).add (wd2 r.ty.toNat)).add (wd2 1)).add (w4 r.tl.toNat))
def quW (q : Qn) (w : Wr) : Wr := ((nameW q.nm w).add (wd2 q.ty.toNat)).add (wd2 1)
def recsW (l : List Rc) (w : Wr) : Wr := l.foldl (fun w r => recW r w) w
def qusW (l : List Qn) (w : Wr) : Wr := l.foldl (fun w q => quW q w) w
def b2n (b : Bool) (n : Nat) : Nat := if b then n else 0
def flg (m : Msg) : Nat := b2n m.re 32768 + 2048 * m.op.toNat + b2n m.au 1024 + b2n m.tr 512 + b2n m.wa 256 + b2n m.av 128 + m.rc.toNat
def headW (m : Msg) : Bs := wd2 m.id.toNat ++ wd2 (flg m) ++ wd2 m.qs.length ++ wd2 m.an.length ++ wd2 m.ns.length ++ wd2 (m.ex.length + b2n (decide (m.sz ≠ 0)) 1)
def optW (m : Msg) (w : Wr) : Wr := if m.sz = 0 then w else w.add ([0] ++ wd2 41 ++ wd2 m.sz.toNat ++ w4 0 ++ wd2 0)
def encW (m : Msg) : Wr := optW m (recsW m.ex (recsW m.ns (recsW m.an (qusW m.qs ⟨headW m, []⟩))))
def encC (m : Msg) : Int := if msgB m then (if (encW m).b.length ≤ 65535 then 0 else 4) else 1
def encS (m : Msg) : Bs := if encC m = 0 then (encW m).b else []
end Go.Proofs.Ytijmbpokglohbaa

namespace Go.Proofs.Ytijmbpokglohbaa
open Go.RowKit
set_option linter.unusedSimpArgs false
set_option linter.unusedVariables false
def QsR (w : World) (ao : Option Addr) (xs : List Qn) : Prop := xs = [] ∨ ∃ g o, ao = some ⟨g, o, none⟩ ∧ g < w.heap.size ∧ ∀ (i : Nat) x, xs[i]? = some x → w.cell? ⟨g, o + i * 2, none⟩ = some (.string ⟨x.nm.toArray⟩) ∧ w.cell? ⟨g, o + i * 2 + 1, none⟩ = some (.int .i64 x.ty)
def RsR (w : World) (ao : Option Addr) (xs : List Rc) : Prop := xs = [] ∨ ∃ g o, ao = some ⟨g, o, none⟩ ∧ g < w.heap.size ∧ ∀ (i : Nat) x, xs[i]? = some x → w.cell? ⟨g, o + i * 4, none⟩ = some (.string ⟨x.nm.toArray⟩) ∧ w.cell? ⟨g, o + i * 4 + 1, none⟩ = some (.int .i64 x.ty) ∧ w.cell? ⟨g, o + i * 4 + 2, none⟩ = some (.int .i64 x.tl) ∧ w.cell? ⟨g, o + i * 4 + 3, none⟩ = some (.string ⟨x.d.toArray⟩)
theorem QsR.some {w : World} {ao : Option Addr} {xs : List Qn} (h : QsR w ao xs) {i : Nat} {x : Qn} (hk : xs[i]? = some x) : ∃ g o, ao = some ⟨g, o, none⟩ ∧ g < w.heap.size ∧ w.cell? ⟨g, o + i * 2, none⟩ = some (.string ⟨x.nm.toArray⟩) ∧ w.cell? ⟨g, o + i * 2 + 1, none⟩ = some (.int .i64 x.ty) := by
  rcases h with rfl | ⟨g, o, h1, h2, h3⟩
  · simp at hk
  · exact ⟨g, o, h1, h2, h3 i x hk⟩
theorem RsR.some {w : World} {ao : Option Addr} {xs : List Rc} (h : RsR w ao xs) {i : Nat} {x : Rc} (hk : xs[i]? = some x) : ∃ g o, ao = some ⟨g, o, none⟩ ∧ g < w.heap.size ∧ w.cell? ⟨g, o + i * 4, none⟩ = some (.string ⟨x.nm.toArray⟩) ∧ w.cell? ⟨g, o + i * 4 + 1, none⟩ = some (.int .i64 x.ty) ∧ w.cell? ⟨g, o + i * 4 + 2, none⟩ = some (.int .i64 x.tl) ∧ w.cell? ⟨g, o + i * 4 + 3, none⟩ = some (.string ⟨x.d.toArray⟩) := by
  rcases h with rfl | ⟨g, o, h1, h2, h3⟩
  · simp at hk
  · exact ⟨g, o, h1, h2, h3 i x hk⟩
theorem QsR.up {w w' : World} {ao : Option Addr} {xs : List Qn} (h : QsR w ao xs) (k : Upd0 w w') : QsR w' ao xs := by
  rcases h with rfl | ⟨g, o, h1, h2, h3⟩
  · exact .inl rfl
  · refine .inr ⟨g, o, h1, Nat.lt_of_lt_of_le h2 k.size, fun i x hx => ?_⟩
    obtain ⟨a, b⟩ := h3 i x hx
    exact ⟨k.cell (fun h => h) a, k.cell (fun h => h) b⟩
theorem RsR.up {w w' : World} {ao : Option Addr} {xs : List Rc} (h : RsR w ao xs) (k : Upd0 w w') : RsR w' ao xs := by
  rcases h with rfl | ⟨g, o, h1, h2, h3⟩
  · exact .inl rfl
  · refine .inr ⟨g, o, h1, Nat.lt_of_lt_of_le h2 k.size, fun i x hx => ?_⟩
    obtain ⟨a, b, c, d⟩ := h3 i x hx
    exact ⟨k.cell (fun h => h) a, k.cell (fun h => h) b, k.cell (fun h => h) c, k.cell (fun h => h) d⟩
/-- not too great for a walk -/
def midR (l : List Rc) : Prop := l.length ≤ 5000 ∧ ∀ r ∈ l, r.nm.length ≤ 5000 ∧ r.d.length ≤ 5000
def midQ (l : List Qn) : Prop := l.length ≤ 5000 ∧ ∀ q ∈ l, q.nm.length ≤ 5000
structure Mid (m : Msg) : Prop where
  qs : midQ m.qs
  an : midR m.an
  ns : midR m.ns
  ex : midR m.ex
theorem shB_mid {l : List Rc} (h : shB l = true) : midR l := by
  simp only [shB, Bool.and_eq_true, decide_eq_true_eq, List.all_eq_true, Rc.sh] at h
  exact ⟨by omega, fun r hr => by have := h.2 r hr; omega⟩
theorem few_mid {m : Msg} (h : fewB m = true) : Mid m := by
  simp only [fewB, Bool.and_eq_true, decide_eq_true_eq, List.all_eq_true] at h
  obtain ⟨⟨h1, h2⟩, h3, h4, h5⟩ := h
  exact ⟨⟨by omega, fun q hq => by have := h2 q hq; omega⟩, shB_mid h3, shB_mid h4, shB_mid h5⟩
def Msg.val (m : Msg) (q a n x : Option Addr) (cq ca cn cx : Nat) : Value :=
  .agg #[.int .i64 m.id, .bool m.re, .int .i64 m.op, .bool m.au, .bool m.tr, .bool m.wa, .bool m.av, .int .i64 m.rc, .slice q m.qs.length cq, .slice a m.an.length ca, .slice n m.ns.length cn, .slice x m.ex.length cx, .int .i64 m.sz]
structure MsR (w : World) (m : Msg) (q a n x : Option Addr) : Prop where
  qs : QsR w q m.qs
  an : RsR w a m.an
  ns : RsR w n m.ns
  ex : RsR w x m.ex
theorem MsR.up {w w' : World} {m : Msg} {q a n x : Option Addr} (h : MsR w m q a n x) (k : Upd0 w w') : MsR w' m q a n x := ⟨h.qs.up k, h.an.up k, h.ns.up k, h.ex.up k⟩
theorem cell2w {w : World} {b : Nat} {a0 a1 : Value} {t : TypeId} (h : w.heap[b]? = some (.cells #[a0, a1] t (0, 0))) : w.cell? ⟨b, 0, none⟩ = some a0 ∧ w.cell? ⟨b, 1, none⟩ = some a1 := ⟨by rw [blk_cell h]; rfl, by rw [blk_cell h]; rfl⟩
end Go.Proofs.Ytijmbpokglohbaa

namespace Go.Proofs.Ytijmbpokglohbaa
open Go.RowKit
set_option linter.unusedSimpArgs false
set_option linter.unusedVariables false
theorem all_take {α : Type} {p : α → Bool} {l : List α} {i : Nat} {x : α} (h : (l.take i).all p = true) (hx : l[i]? = some x) (hp : p x = true) : (l.take (i + 1)).all p = true := by
  rw [List.take_add_one, hx, List.all_append, h]; simp [hp]
theorem all_no {α : Type} {p : α → Bool} {l : List α} {i : Nat} {x : α} (hx : l[i]? = some x) (hp : p x = false) : l.all p = false := by
  rw [List.all_eq_false]
  exact ⟨x, List.mem_of_getElem? hx, by rw [hp]; decide⟩
theorem all_end {α : Type} {p : α → Bool} {l : List α} {i : Nat} (h : (l.take i).all p = true) (hi : l.length ≤ i) : l.all p = true := by rwa [List.take_of_length_le hi] at h
end Go.Proofs.Ytijmbpokglohbaa

namespace Go.Proofs.Ytijmbpokglohbaa
open Go.RowKit Go.Maps
set_option linter.unusedSimpArgs false
set_option linter.unusedVariables false
variable {B : Nat}
theorem cell13w {w : World} {b : Nat} {a0 a1 a2 a3 a4 a5 a6 a7 a8 a9 a10 a11 a12 : Value} {t : TypeId} (h : w.heap[b]? = some (.cells #[a0, a1, a2, a3, a4, a5, a6, a7, a8, a9, a10, a11, a12] t (0, 0))) : w.cell? ⟨b, 0, none⟩ = some a0 ∧ w.cell? ⟨b, 1, none⟩ = some a1 ∧ w.cell? ⟨b, 2, none⟩ = some a2 ∧ w.cell? ⟨b, 3, none⟩ = some a3 ∧ w.cell? ⟨b, 4, none⟩ = some a4 ∧ w.cell? ⟨b, 5, none⟩ = some a5 ∧ w.cell? ⟨b, 6, none⟩ = some a6 ∧ w.cell? ⟨b, 7, none⟩ = some a7 ∧ w.cell? ⟨b, 8, none⟩ = some a8 ∧ w.cell? ⟨b, 9, none⟩ = some a9 ∧ w.cell? ⟨b, 10, none⟩ = some a10 ∧ w.cell? ⟨b, 11, none⟩ = some a11 ∧ w.cell? ⟨b, 12, none⟩ = some a12 := ⟨by rw [blk_cell h]; rfl, by rw [blk_cell h]; rfl, by rw [blk_cell h]; rfl, by rw [blk_cell h]; rfl, by rw [blk_cell h]; rfl, by rw [blk_cell h]; rfl, by rw [blk_cell h]; rfl, by rw [blk_cell h]; rfl, by rw [blk_cell h]; rfl, by rw [blk_cell h]; rfl, by rw [blk_cell h]; rfl, by rw [blk_cell h]; rfl, by rw [blk_cell h]; rfl⟩
set_option maxRecDepth 100000 in
set_option maxHeartbeats 2000000 in
theorem short_w (ao : Option Addr) (cap : Nat) (xs : List Rc) (w : World) (h : RsR w ao xs) (hl : xs.length ≤ maxLen) :
    Calls Try.prog 24 #[.slice ao xs.length cap] w (Rets fun r w' => r = .bool (shB xs) ∧ Upd0 w w') := by
  have hh := Lib.hid h
  clear h
  simp only [maxLen] at hl
  by_cases h25 : 25 < xs.length
  · have hlen : (25 : Int) < xs.length := by omega
    go_enter Try.func24, Try.ntmps24
    go_wp2_with (first | (with_reducible refine wp_serial (by kernel_rfl) (by kernel_rfl) (by repeat with_reducible (first | apply NoBad.then | apply NoBad.inBlock | apply NoBad.jump | exact NoBad.rets)) ?_) | fail)
    all_goals go_returns
    all_goals exact ⟨by rw [shB, decide_eq_false (by omega)]; rfl, (by repeat first | with_reducible (first | exact Upd.refl _ _ | assumption | apply Upd.drew | apply Upd.alloc) | refine Upd0.tr ?_ (by with_reducible assumption) | refine Upd.setCell ?_ (fun h => absurd h (by first | exact Nat.lt_irrefl _ | (simp only []; omega))) _)⟩
  have h25' : ¬ (25 : Int) < xs.length := by omega
  go_enter Try.func24, Try.ntmps24
  go_wp2_with (first | (with_reducible refine wp_serial (by kernel_rfl) (by kernel_rfl) (by repeat with_reducible (first | apply NoBad.then | apply NoBad.inBlock | apply NoBad.jump | exact NoBad.rets)) ?_) | fail)
  go_loopw [3] (fun jj wr => ∃ j : Nat, j ≤ xs.length ∧ jj = .int .i64 j ∧ Upd0 w wr ∧ Hid ((xs.take j).all Rc.sh = true)) (fun jj _ => xs.length - (intOf jj).toNat)
  case atStart => exact ⟨0, Nat.zero_le _, rfl, (by repeat first | with_reducible (first | exact Upd.refl _ _ | assumption | apply Upd.drew | apply Upd.alloc) | refine Upd0.tr ?_ (by with_reducible assumption) | refine Upd.setCell ?_ (fun h => absurd h (by first | exact Nat.lt_irrefl _ | (simp only []; omega))) _), Lib.hid rfl⟩
  case round =>
    obtain ⟨j, hj, rfl, hu, hno⟩ := hrel
    by_cases hlt : j < xs.length
    · obtain ⟨x, hx⟩ : ∃ x, xs[j]? = some x := ⟨xs[j], List.getElem?_eq_getElem hlt⟩
      obtain ⟨g, o, rfl, hg, e0, e1, e2, e3⟩ := hh.out.some hx
      have hgw : g < wr.heap.size := Nat.lt_of_lt_of_le hg hu.size
      have d0 := hu.cell (fun h => h) e0
      have d3 := hu.cell (fun h => h) e3
      have hxh := Lib.hid hx
      clear hx e0 e1 e2 e3
      by_cases h1 : 300 < x.nm.length
      · have hf := Lib.hid (all_no hxh.out (by simp only [Rc.sh, decide_eq_false (Nat.not_le.2 h1), Bool.false_and] : x.sh = false))
        have h1' : (300 : Int) < x.nm.length := by omega
        go_wp2_with (first | (with_reducible refine wp_serial (by kernel_rfl) (by kernel_rfl) (by repeat with_reducible (first | apply NoBad.then | apply NoBad.inBlock | apply NoBad.jump | exact NoBad.rets)) ?_) | fail)
        all_goals go_returns
        all_goals exact ⟨by rw [shB, hf.out, Bool.and_false]; rfl, (by repeat first | with_reducible (first | exact Upd.refl _ _ | assumption | apply Upd.drew | apply Upd.alloc) | refine Upd0.tr ?_ (by with_reducible assumption) | refine Upd.setCell ?_ (fun h => absurd h (by first | exact Nat.lt_irrefl _ | (simp only []; omega))) _)⟩
      · have h1' : ¬ (300 : Int) < x.nm.length := by omega
        by_cases h2 : 300 < x.d.length
        · have hf := Lib.hid (all_no hxh.out (by simp only [Rc.sh, decide_eq_false (Nat.not_le.2 h2), Bool.and_false] : x.sh = false))
          have h2' : (300 : Int) < x.d.length := by omega
          go_wp2_with (first | (with_reducible refine wp_serial (by kernel_rfl) (by kernel_rfl) (by repeat with_reducible (first | apply NoBad.then | apply NoBad.inBlock | apply NoBad.jump | exact NoBad.rets)) ?_) | fail)
          all_goals go_returns
          all_goals exact ⟨by rw [shB, hf.out, Bool.and_false]; rfl, (by repeat first | with_reducible (first | exact Upd.refl _ _ | assumption | apply Upd.drew | apply Upd.alloc) | refine Upd0.tr ?_ (by with_reducible assumption) | refine Upd.setCell ?_ (fun h => absurd h (by first | exact Nat.lt_irrefl _ | (simp only []; omega))) _)⟩
        · have hf := Lib.hid (all_take hno.out hxh.out (by simp only [Rc.sh, decide_eq_true (Nat.not_lt.1 h1), decide_eq_true (Nat.not_lt.1 h2), Bool.and_self] : x.sh = true))
          have h2' : ¬ (300 : Int) < x.d.length := by omega
          go_wp2_with (first | (with_reducible refine wp_serial (by kernel_rfl) (by kernel_rfl) (by repeat with_reducible (first | apply NoBad.then | apply NoBad.inBlock | apply NoBad.jump | exact NoBad.rets)) ?_) | fail)
          go_roundw
          case rel => exact ⟨j + 1, by omega, by go_num, hu, hf⟩
          case measure => simp [intOf]; omega
    · have hf := Lib.hid (all_end hno.out (by omega))
      go_wp2_with (first | (with_reducible refine wp_serial (by kernel_rfl) (by kernel_rfl) (by repeat with_reducible (first | apply NoBad.then | apply NoBad.inBlock | apply NoBad.jump | exact NoBad.rets)) ?_) | fail)
      all_goals go_returns
      all_goals exact ⟨by rw [shB, hf.out, decide_eq_true (by omega)]; rfl, (by repeat first | with_reducible (first | exact Upd.refl _ _ | assumption | apply Upd.drew | apply Upd.alloc) | refine Upd0.tr ?_ (by with_reducible assumption) | refine Upd.setCell ?_ (fun h => absurd h (by first | exact Nat.lt_irrefl _ | (simp only []; omega))) _)⟩
end Go.Proofs.Ytijmbpokglohbaa

namespace Go.Proofs.Ytijmbpokglohbaa
open Go.RowKit
set_option linter.unusedSimpArgs false
set_option linter.unusedVariables false
/-- append of cells that lie in memory, at whatever place -/
theorem wpList_appA {P : Program} {w W : World} (hext : Ext w W) {ops : Array Oper} {rest : List Oper} {o : Oper} {a : Act} {Q : Exit → Act → World → Prop} (hgd : o.guard = none) (s x : Operand) (t : TypeId)
    (ho : o.op = .call { callee := .builtin .append, args := #[s, x], argTypes := #[t, t] })
    (e : TypeId) (i : TypeInfo) (z : Value) (size bytes : Nat) (ht : P.underlying t = some (.slice e)) (hi : P.info? e = some i) (hz : i.zero = some z)
    (hsize : i.size = size) (hby : i.bytes = bytes) (hzs : z.cells.size = size) (hsz : 0 < size)
    (v : Value) (n : Nat) (xs : List Value) (hown : w.ownsRow 0 e size v n xs) (hs : a.eval s = v)
    (ad : Addr) (m c : Nat) (news : List Value) (hx : a.eval x = .slice (some ad) m c) (hl : news.length = m * size) (hnews : ∀ j u, news[j]? = some u → W.cell? (ad.add j) = some u) (h1 : ∀ u ∈ news, u.oneCell' = true)
    (hbytes : (n + m) * bytes ≤ 140737488355328) (h63 : n + m ≤ 140737488355328)
    (h : ∀ ao' cap' W', W'.ownsRow 0 e size (.slice ao' (n + m) cap') (n + m) (xs ++ news) → Upd (fun k => v.ownBlock = some k) W W' → Fresh W v (.slice ao' (n + m) cap') → wpList P ops Q rest (a.put o.dst (.slice ao' (n + m) cap')) W') : wpList P ops Q (o :: rest) a W := by
  refine wpList_plain hgd fun _ hK => ?_
  obtain ⟨ao', cap', W', hr, h2, h3, h4, _⟩ := run_append_blk (P := P) hext t o.type e i z size bytes ht hi hz hsize hby hzs hsz v n xs hown ad m c news hl hnews h1 hbytes h63
  unfold Oper.wp execOp
  simp only [ho, resolve, invoke, builtin, Sem.run_bind, Sem.run_pure, Result.andThen_ok, List.map_toArray, List.map_cons, List.map_nil, hs, hx, hr]
  exact hK _ _ (h ao' cap' W' h2 h3 h4)
theorem flat_at {α : Type} {f : α → List Value} {s : Nat} (hs : 0 < s) (hf : ∀ x, (f x).length = s) : ∀ (l : List α) (j : Nat) (u : Value), (l.flatMap f)[j]? = some u → ∃ x, l[j / s]? = some x ∧ (f x)[j % s]? = some u
  | [], j, u, h => by simp at h
  | y :: l, j, u, h => by
    rw [List.flatMap_cons] at h
    rcases Nat.lt_or_ge j s with hj | hj
    · rw [List.getElem?_append_left (by rw [hf]; exact hj)] at h
      exact ⟨y, by rw [Nat.div_eq_of_lt hj]; rfl, by rw [Nat.mod_eq_of_lt hj]; exact h⟩
    · rw [List.getElem?_append_right (by rw [hf]; exact hj), hf] at h
      obtain ⟨x, h1, h2⟩ := flat_at hs hf l (j - s) u h
      have e1 : j / s = (j - s) / s + 1 := by rw [← Nat.add_div_right _ hs]; congr 1; omega
      have e2 : j % s = (j - s) % s := by rw [← Nat.add_mod_right (j - s) s]; congr 1; omega
      exact ⟨x, by rw [e1]; exact h1, by rw [e2]; exact h2⟩
theorem RsR.upB {S : Nat → Prop} {w w' : World} {ao : Option Addr} {xs : List Rc} (h : RsR w ao xs) (k : Upd S w w') (hS : ∀ g o, ao = Option.some ⟨g, o, none⟩ → ¬ S g) : RsR w' ao xs := by
  rcases h with rfl | ⟨g, o, h1, h2, h3⟩
  · exact .inl rfl
  · refine .inr ⟨g, o, h1, Nat.lt_of_lt_of_le h2 k.size, fun i x hx => ?_⟩
    have hn := hS g o h1
    obtain ⟨a, b, c, d⟩ := h3 i x hx
    exact ⟨k.cell hn a, k.cell hn b, k.cell hn c, k.cell hn d⟩
theorem QsR.upB {S : Nat → Prop} {w w' : World} {ao : Option Addr} {xs : List Qn} (h : QsR w ao xs) (k : Upd S w w') (hS : ∀ g o, ao = Option.some ⟨g, o, none⟩ → ¬ S g) : QsR w' ao xs := by
  rcases h with rfl | ⟨g, o, h1, h2, h3⟩
  · exact .inl rfl
  · refine .inr ⟨g, o, h1, Nat.lt_of_lt_of_le h2 k.size, fun i x hx => ?_⟩
    have hn := hS g o h1
    obtain ⟨a, b⟩ := h3 i x hx
    exact ⟨k.cell hn a, k.cell hn b⟩
theorem RsR.takeR {w : World} {ao : Option Addr} {xs : List Rc} (h : RsR w ao xs) (k : Nat) : RsR w ao (xs.take k) := by
  rcases h with rfl | ⟨g, o, h1, h2, h3⟩
  · exact .inl (by simp)
  · refine .inr ⟨g, o, h1, h2, fun i x hx => ?_⟩
    rw [List.getElem?_take] at hx
    split at hx
    · exact h3 i x hx
    · cases hx
theorem addr_add (g o n : Nat) : (⟨g, o, none⟩ : Addr).add n = ⟨g, o + n, none⟩ := by cases n <;> simp [Addr.add]
def Qn.zv : Value := .agg #[.string .empty, .int .i64 0]
def Rc.zv : Value := .agg #[.string .empty, .int .i64 0, .int .i64 0, .string .empty]
theorem cells_q {w : World} {ad : Addr} {xs : List Qn} (h : QsR w (some ad) xs) : ∀ j u, (xs.flatMap Qn.cells)[j]? = some u → w.cell? (ad.add j) = some u := by
  intro j u hj
  obtain ⟨x, hx, hu⟩ := flat_at (by decide) Qn.cells_len xs j u hj
  rcases h with rfl | ⟨g, o, h1, h2, h3⟩
  · simp at hx
  · injection h1 with h1
    subst h1
    rw [addr_add]
    have hj2 : o + j = o + j / 2 * 2 + j % 2 := by omega
    have hlt : j % 2 < 2 := Nat.mod_lt _ (by decide)
    rw [hj2]
    obtain ⟨c0, c1⟩ := h3 _ x hx
    generalize j % 2 = k at hu hlt
    match k, hlt with
    | 0, _ => simp [Qn.cells] at hu; rw [← hu]; exact c0
    | 1, _ => simp [Qn.cells] at hu; rw [← hu]; exact c1
theorem own_qsr {w : World} {B : Nat} {ao : Option Addr} {n cap : Nat} {xs : List Qn} (h : w.ownsRow B 31 2 (.slice ao n cap) n (xs.flatMap Qn.cells)) (hn : n = xs.length) : QsR w ao xs := by
  subst hn
  by_cases hx : xs = []
  · exact .inl hx
  · have hl := List.length_pos_iff.2 hx
    obtain ⟨g, rfl⟩ := ownsRow_some h hl
    refine .inr ⟨g, 0, rfl, ownsRow_lt h rfl, fun i x hi => ?_⟩
    rw [Nat.zero_add]
    have hc := fun j u hj hu => elem_cell Qn.cells_len h hi j u hj hu
    exact ⟨hc 0 _ (by decide) rfl, hc 1 _ (by decide) rfl⟩
theorem info_q : (Try.prog.info? 31).map (fun i => (i.zero, i.size, i.bytes)) = some (some (Qn.zv), 2, 24) := by kernel_rfl
theorem one_q (xs : List Qn) : ∀ u ∈ xs.flatMap Qn.cells, u.oneCell' = true := by
  intro u hu
  simp only [List.mem_flatMap] at hu
  obtain ⟨x, _, hx⟩ := hu
  obtain ⟨nm, ty⟩ := x
  simp only [Qn.cells, List.mem_cons, List.not_mem_nil, or_false] at hx
  rcases hx with rfl | rfl <;> rfl
theorem cells_r {w : World} {ad : Addr} {xs : List Rc} (h : RsR w (some ad) xs) : ∀ j u, (xs.flatMap Rc.cells)[j]? = some u → w.cell? (ad.add j) = some u := by
  intro j u hj
  obtain ⟨x, hx, hu⟩ := flat_at (by decide) Rc.cells_len xs j u hj
  rcases h with rfl | ⟨g, o, h1, h2, h3⟩
  · simp at hx
  · injection h1 with h1
    subst h1
    rw [addr_add]
    have hj2 : o + j = o + j / 4 * 4 + j % 4 := by omega
    have hlt : j % 4 < 4 := Nat.mod_lt _ (by decide)
    rw [hj2]
    obtain ⟨c0, c1, c2, c3⟩ := h3 _ x hx
    generalize j % 4 = k at hu hlt
    match k, hlt with
    | 0, _ => simp [Rc.cells] at hu; rw [← hu]; exact c0
    | 1, _ => simp [Rc.cells] at hu; rw [← hu]; exact c1
    | 2, _ => simp [Rc.cells] at hu; rw [← hu]; exact c2
    | 3, _ => simp [Rc.cells] at hu; rw [← hu]; exact c3
theorem own_rsr {w : World} {B : Nat} {ao : Option Addr} {n cap : Nat} {xs : List Rc} (h : w.ownsRow B 82 4 (.slice ao n cap) n (xs.flatMap Rc.cells)) (hn : n = xs.length) : RsR w ao xs := by
  subst hn
  by_cases hx : xs = []
  · exact .inl hx
  · have hl := List.length_pos_iff.2 hx
    obtain ⟨g, rfl⟩ := ownsRow_some h hl
    refine .inr ⟨g, 0, rfl, ownsRow_lt h rfl, fun i x hi => ?_⟩
    rw [Nat.zero_add]
    have hc := fun j u hj hu => elem_cell Rc.cells_len h hi j u hj hu
    exact ⟨hc 0 _ (by decide) rfl, hc 1 _ (by decide) rfl, hc 2 _ (by decide) rfl, hc 3 _ (by decide) rfl⟩
theorem info_r : (Try.prog.info? 82).map (fun i => (i.zero, i.size, i.bytes)) = some (some (Rc.zv), 4, 48) := by kernel_rfl
theorem one_r (xs : List Rc) : ∀ u ∈ xs.flatMap Rc.cells, u.oneCell' = true := by
  intro u hu
  simp only [List.mem_flatMap] at hu
  obtain ⟨x, _, hx⟩ := hu
  obtain ⟨nm, ty, tl, d⟩ := x
  simp only [Rc.cells, List.mem_cons, List.not_mem_nil, or_false] at hx
  rcases hx with rfl | rfl | rfl | rfl <;> rfl
end Go.Proofs.Ytijmbpokglohbaa

namespace Go.Proofs.Ytijmbpokglohbaa
open Go.RowKit
set_option linter.unusedSimpArgs false
set_option linter.unusedVariables false
set_option maxRecDepth 100000 in
set_option maxHeartbeats 2000000 in
theorem rsameR_w (ao bo : Option Addr) (ca cb : Nat) (xs : List Rc) (w : World) (hA : RsR w ao xs) (hB : RsR w bo xs) (hl : xs.length ≤ 5000) :
    Calls Try.prog 21 #[.slice ao xs.length ca, .slice bo xs.length cb] w (Rets fun r w' => r = .bool true ∧ Upd0 w w') := by
  have hAh := Lib.hid hA
  have hBh := Lib.hid hB
  clear hA hB
  go_enter Try.func21, Try.ntmps21
  go_wp2_with (first | (with_reducible refine wp_serial (by kernel_rfl) (by kernel_rfl) (by repeat with_reducible (first | apply NoBad.then | apply NoBad.inBlock | apply NoBad.jump | exact NoBad.rets)) ?_) | fail)
  go_loopw [5] (fun jj wr => ∃ j : Nat, j ≤ xs.length ∧ jj = .int .i64 j ∧ Upd0 w wr) (fun jj _ => xs.length - (intOf jj).toNat)
  case atStart => exact ⟨0, Nat.zero_le _, rfl, Upd.refl _ _⟩
  case round =>
    obtain ⟨j, hj, rfl, hu⟩ := hrel
    by_cases hlt : j < xs.length
    · obtain ⟨⟨nm, ty, tl, d⟩, hx⟩ : ∃ x, xs[j]? = some x := ⟨xs[j], List.getElem?_eq_getElem hlt⟩
      obtain ⟨g, o, rfl, hg, e0, e1, e2, e3⟩ := hAh.out.some hx
      obtain ⟨g2, o2, rfl, hg2, k0, k1, k2, k3⟩ := hBh.out.some hx
      dsimp only at e0 e1 e2 e3 k0 k1 k2 k3
      have d0 := hu.cell (fun h => h) e0
      have d1 := hu.cell (fun h => h) e1
      have d2 := hu.cell (fun h => h) e2
      have d3 := hu.cell (fun h => h) e3
      have b0 := hu.cell (fun h => h) k0
      have b1 := hu.cell (fun h => h) k1
      have b2 := hu.cell (fun h => h) k2
      have b3 := hu.cell (fun h => h) k3
      clear hx e0 e1 e2 e3 k0 k1 k2 k3
      go_wp2_with (first | (with_reducible refine wp_serial (by kernel_rfl) (by kernel_rfl) (by repeat with_reducible (first | apply NoBad.then | apply NoBad.inBlock | apply NoBad.jump | exact NoBad.rets)) ?_) | fail)
      go_roundw
      case rel => exact ⟨j + 1, by omega, by go_num, (by repeat first | with_reducible (first | exact Upd.refl _ _ | assumption | apply Upd.drew | apply Upd.alloc) | refine Upd0.tr ?_ (by with_reducible assumption) | refine Upd.setCell ?_ (fun h => absurd h (by first | exact Nat.lt_irrefl _ | (simp only []; omega))) _)⟩
      case measure => simp [intOf]; omega
    · go_wp2_with (first | (with_reducible refine wp_serial (by kernel_rfl) (by kernel_rfl) (by repeat with_reducible (first | apply NoBad.then | apply NoBad.inBlock | apply NoBad.jump | exact NoBad.rets)) ?_) | fail)
      all_goals go_returns
      all_goals exact ⟨rfl, (by repeat first | with_reducible (first | exact Upd.refl _ _ | assumption | apply Upd.drew | apply Upd.alloc) | refine Upd0.tr ?_ (by with_reducible assumption) | refine Upd.setCell ?_ (fun h => absurd h (by first | exact Nat.lt_irrefl _ | (simp only []; omega))) _)⟩
end Go.Proofs.Ytijmbpokglohbaa
