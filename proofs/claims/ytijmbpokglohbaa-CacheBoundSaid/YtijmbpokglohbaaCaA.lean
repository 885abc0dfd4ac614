/-
  The program's cache in memory: what it holds; New, Len.
-/
import Derived.Test.YtijmbpokglohbaaCaM
import Derived.Test.YtijmbpokglohbaaSeF
namespace Go.Proofs.Ytijmbpokglohbaa
open Go.RowKit Go.Maps
set_option linter.unusedSimpArgs false
set_option linter.unusedVariables false
variable {B : Nat}
/-- an entry -/
structure CE where
  nm : Bs
  ty : Int
  tl : Int
  dt : List Bs
  rk : Int
  en : Int
  us : Int
def CE.st (e : CE) : St := ⟨e.nm, e.ty, e.tl, e.dt⟩
def CE.cells (e : CE) (ao : Option Addr) (cap : Nat) : Array Value := #[.string ⟨e.nm.toArray⟩, .int .i64 e.ty, .int .i64 e.tl, .slice ao e.dt.length cap, .int .i64 e.rk, .int .i64 e.en, .int .i64 e.us]
/-- data that lie in a row of texts -/
def DR (w : World) (ao : Option Addr) (l : List Bs) : Prop := SR w ao l ∧ ∀ g o, ao = some ⟨g, o, none⟩ → ∃ cur fz, w.heap[g]? = some (.cells cur 9 fz)
/-- an entry in memory -/
structure EM where
  e : CE
  g : Nat
  ao : Option Addr
  cap : Nat
def EM.ke (m : EM) : KE := ⟨m.e.nm, m.e.ty, m.g⟩
structure EIs (w : World) (m : EM) : Prop where
  blk : w.heap[m.g]? = some (.cells (m.e.cells m.ao m.cap) 106 (0, 0))
  dat : DR w m.ao m.e.dt
structure CaIs (B : Nat) (w : World) (t bm : Nat) (room most N : Int) (L : List CE) (M : List EM) : Prop where
  blk : w.heap[t]? = some (.cells #[.int .i64 room, .int .i64 most, .map (some bm), .int .i64 N] 99 (0, 0))
  own : OwnsQ w bm (M.map EM.ke)
  abs : M.map (·.e) = L
  ent : ∀ m ∈ M, EIs w m
  dg : M.Pairwise fun a b => a.g ≠ b.g
  lo : B ≤ t ∧ B ≤ bm ∧ ∀ m ∈ M, B ≤ m.g
def kindQ : Option Obj → Bool
  | some (.cells _ t _) => decide (t = 99) || decide (t = 106)
  | some (.map _ _) => true
  | _ => false
def UpdQ (B : Nat) (w w' : World) : Prop := Upd (fun b => B ≤ b ∧ kindQ w.heap[b]? = true) w w'
theorem UpdQ.of0 {w w' : World} (h : Upd0 w w') : UpdQ B w w' := h.mono (fun _ _ h => h.elim)
theorem updq_trans {kd : Option Obj → Bool} {w w' w'' : World} (h : Upd (fun b => B ≤ b ∧ kd w.heap[b]? = true) w w') (k : Upd (fun b => B ≤ b ∧ kd w'.heap[b]? = true) w' w'') : Upd (fun b => B ≤ b ∧ kd w.heap[b]? = true) w w'' := by
  refine Upd.trans h k fun n hn hs => ?_
  by_cases he : kd w.heap[n]? = true
  · exact ⟨hs.1, he⟩
  · have := h.keep n hn (fun h => he h.2)
    rw [this] at hs
    exact hs
theorem UpdQ.tr {w w' w'' : World} (h : UpdQ B w w') (k : UpdQ B w' w'') : UpdQ B w w'' := updq_trans h k
theorem UpdQ.fin {w0 w w' : World} (h : Upd0 w0 w) (k : UpdQ w0.heap.size w w') : Upd0 w0 w' := Upd.trans h k fun n hn hs => by have := hs.1; omega
theorem DR.to {S : Nat → Prop} {w w' : World} {ao : Option Addr} {l : List Bs} (h : DR w ao l) (k : Upd S w w') (hS : ∀ g cur fz, w.heap[g]? = some (.cells cur 9 fz) → ¬ S g) : DR w' ao l := by
  refine ⟨sr_updN h.1 k fun g o e => ?_, fun g o e => ?_⟩
  · obtain ⟨cur, fz, hc⟩ := h.2 g o e
    exact hS g cur fz hc
  · obtain ⟨cur, fz, hc⟩ := h.2 g o e
    exact ⟨cur, fz, k.block (hS g cur fz hc) hc⟩
theorem EIs.to {S : Nat → Prop} {w w' : World} {m : EM} (h : EIs w m) (k : Upd S w w') (h1 : ¬ S m.g) (hS : ∀ g cur fz, w.heap[g]? = some (.cells cur 9 fz) → ¬ S g) : EIs w' m := ⟨k.block h1 h.blk, h.dat.to k hS⟩
theorem CaIs.to {S : Nat → Prop} {w w' : World} {t bm : Nat} {room most N : Int} {L : List CE} {M : List EM} (h : CaIs B w t bm room most N L M) (k : Upd S w w') (hS : ∀ b, S b → kindQ w.heap[b]? = false) (hS2 : ∀ g cur fz, w.heap[g]? = some (.cells cur 9 fz) → ¬ S g) : CaIs B w' t bm room most N L M := by
  have hno : ∀ b, kindQ w.heap[b]? = true → ¬ S b := fun b hb hs => by rw [hS b hs] at hb; cases hb
  refine ⟨k.block (hno t (by rw [h.blk]; rfl)) h.blk, h.own.to (k.keep bm h.own.lt (hno bm (by obtain ⟨es, c, he⟩ := h.own.blk; rw [he]; rfl))), h.abs, fun m hm => ?_, h.dg, h.lo⟩
  have ht := h.ent m hm
  exact ht.to k (hno m.g (by rw [ht.blk]; rfl)) hS2
theorem CaIs.to0 {w w' : World} {t bm : Nat} {room most N : Int} {L : List CE} {M : List EM} (h : CaIs B w t bm room most N L M) (k : Upd0 w w') : CaIs B w' t bm room most N L M := h.to k (fun _ h => h.elim) (fun _ _ _ _ h => h.elim)
end Go.Proofs.Ytijmbpokglohbaa
