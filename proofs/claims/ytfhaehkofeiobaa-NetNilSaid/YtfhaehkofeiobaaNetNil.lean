/-
  NetNil: proved.
-/
import Derived.Test.YtfhaehkofeiobaaNetU
import Derived.Test.YtfhaehkofeiobaaRd
namespace Go.Proofs.Ytfhaehkofeiobaa
open Go.ChangeShapes Go.WideShapes Go.ChangeAt Go.RowKit
set_option linter.unusedSimpArgs false
set_option linter.unusedVariables false

set_option maxHeartbeats 1000000 in
theorem netNil_walk (a b c i : Int) (s : ByteArray) (w : World) :
    Calls Try.prog 4 #[.agg #[.int .i64 a, .int .i64 b, .int .i64 c, .string s, .int .i64 i]] w (Rets fun r w' => r = .bool true ∧ Upd0 w w') := by
  go_enter Try.func4, Try.ntmps4
  go_wp2_with (first
    | (with_reducible refine wp_serial (by kernel_rfl) (by kernel_rfl) (by (repeat (first | (with_reducible apply NoBad.then) | (with_reducible apply NoBad.inBlock) | (with_reducible exact NoBad.rets))); done) ?_)
    | (go_at_call 8; refine (new_arg 0 0 _ (by decide)).use ?_; rintro v w1 ⟨rfl, hu⟩; obtain ⟨k1, k2, k3⟩ := hu.rules; (try simp only [World.size_alloc, World.size_drew] at k1 k2 k3); have kw1 : w.heap.size < w1.heap.size := (by omega); have h1 := Lib.hid (Upd.trans (w := w) (by (repeat (first | exact Upd.refl _ _ | assumption | apply Upd.drew | apply Upd.alloc | (refine Upd.setCell ?_ (fun h => absurd h (by first | exact Nat.lt_irrefl _ | (simp only []; omega))) _))); done) hu (fun _ _ h => h)); clear hu)
    | (go_at_call 19; refine (look_nil _ _).use ?_; rintro v w2 ⟨rfl, hu⟩; obtain ⟨l1, l2, l3⟩ := hu.rules; (try simp only [World.size_alloc, World.size_drew] at l1 l2 l3); have kw2 : w.heap.size < w2.heap.size := (by omega); have h2 := Lib.hid (Upd.trans (w := w) (Upd.trans h1.out (by (repeat (first | exact Upd.refl _ _ | assumption | apply Upd.drew | apply Upd.alloc | (refine Upd.setCell ?_ (fun h => absurd h (by first | exact Nat.lt_irrefl _ | (simp only []; omega))) _))); done) (fun _ _ h => h)) hu (fun _ _ h => h)); clear hu)
    | (go_at_call 12; refine (take_nil _ _).use ?_; rintro v w3 ⟨rfl, hu⟩; obtain ⟨m1, m2, m3⟩ := hu.rules; (try simp only [World.size_alloc, World.size_drew] at m1 m2 m3); have kw3 : w.heap.size < w3.heap.size := (by omega); have h3 := Lib.hid (Upd.trans (w := w) (Upd.trans h2.out (by (repeat (first | exact Upd.refl _ _ | assumption | apply Upd.drew | apply Upd.alloc | (refine Upd.setCell ?_ (fun h => absurd h (by first | exact Nat.lt_irrefl _ | (simp only []; omega))) _))); done) (fun _ _ h => h)) hu (fun _ _ h => h)); clear hu)
    | (go_at_call 10; have qq := h3.out; clear qq; refine (send_nil _ ⟨0, 0, ⟨#[120]⟩⟩).use ?_; rintro v w4 ⟨rfl, hu⟩; obtain ⟨n1, n2, n3⟩ := hu.rules; (try simp only [World.size_alloc, World.size_drew] at n1 n2 n3); have kw4 : w.heap.size < w4.heap.size := (by omega); have h4 := Lib.hid (Upd.trans (w := w) (Upd.trans h3.out (by (repeat (first | exact Upd.refl _ _ | assumption | apply Upd.drew | apply Upd.alloc | (refine Upd.setCell ?_ (fun h => absurd h (by first | exact Nat.lt_irrefl _ | (simp only []; omega))) _))); done) (fun _ _ h => h)) hu (fun _ _ h => h)); clear hu)
    | (go_at_call 15; have qq := h4.out; clear qq; refine (double_nil _ _).use ?_; rintro v w5 ⟨rfl, hu⟩; obtain ⟨p1, p2, p3⟩ := hu.rules; (try simp only [World.size_alloc, World.size_drew] at p1 p2 p3); have kw5 : w.heap.size < w5.heap.size := (by omega); have h5 := Lib.hid (Upd.trans (w := w) (Upd.trans h4.out (by (repeat (first | exact Upd.refl _ _ | assumption | apply Upd.drew | apply Upd.alloc | (refine Upd.setCell ?_ (fun h => absurd h (by first | exact Nat.lt_irrefl _ | (simp only []; omega))) _))); done) (fun _ _ h => h)) hu (fun _ _ h => h)); clear hu)
    | (go_at_call 17; have qq := h5.out; clear qq; refine (clear_nil _ _).use ?_; rintro v w6 ⟨rfl, hu⟩; obtain ⟨q1, q2, q3⟩ := hu.rules; (try simp only [World.size_alloc, World.size_drew] at q1 q2 q3); have kw6 : w.heap.size < w6.heap.size := (by omega); have h6 := Lib.hid (Upd.trans (w := w) (Upd.trans h5.out (by (repeat (first | exact Upd.refl _ _ | assumption | apply Upd.drew | apply Upd.alloc | (refine Upd.setCell ?_ (fun h => absurd h (by first | exact Nat.lt_irrefl _ | (simp only []; omega))) _))); done) (fun _ _ h => h)) hu (fun _ _ h => h)); clear hu)
    | (go_at_call 21; have qq := h6.out; clear qq; refine (len_nil _).use ?_; rintro v w7 ⟨rfl, rfl⟩)
    | (go_at_call 9; have qq := h6.out; clear qq; refine (live_any _).use ?_; rintro v w8 ⟨rfl, hu⟩; obtain ⟨r1, r2, r3⟩ := hu.rules; (try simp only [World.size_alloc, World.size_drew] at r1 r2 r3); have kw8 : w.heap.size < w8.heap.size := (by omega); have h8 := Lib.hid (Upd.trans (w := w) (Upd.trans h6.out (by (repeat (first | exact Upd.refl _ _ | assumption | apply Upd.drew | apply Upd.alloc | (refine Upd.setCell ?_ (fun h => absurd h (by first | exact Nat.lt_irrefl _ | (simp only []; omega))) _))); done) (fun _ _ h => h)) hu (fun _ _ h => h)); clear hu)
    | fail)
  go_ret
  exact ⟨rfl, Upd.trans h8.out (by (repeat (first | exact Upd.refl _ _ | assumption | apply Upd.drew | apply Upd.alloc | (refine Upd.setCell ?_ (fun h => absurd h (by first | exact Nat.lt_irrefl _ | (simp only []; omega))) _))); done) (fun _ _ h => h)⟩
def OpTy : Ty := .st (.cons (.int .i64) (.cons (.st (.cons (.int .i64) (.cons (.int .i64) (.cons .str .fin)))) (.cons (.int .i64) .fin)))
theorem netNil_contract (H : Type) (enc : TypeId × Value → H) (W : World) (base : Nat) (args : Array Value) (ds gs : List (DataW H)) (before : List MemPlace)
    (hval : ∀ (j : Nat) t v, Try.f4.params[j]? = some t → args[j]? = some v → Value.okWide Try.prog W .any base t v)
    (hW : DataW.Whole enc Try.prog Try.f4.params.toList Rows.netNilSpec.vars false W args.toList ds gs before) :
    Calls Try.prog 4 args W fun e W' => ∃ v, e = .returned v ∧ Rows.netNilSpec.post enc Try.prog Try.f4 false true false false W args v W' := by
  have hW' := hW
  obtain ⟨p, q, hA0, hV, rfl, hfz, hnd⟩ := hW
  have hA : DataW.TrodAll enc Try.prog W 0 (fun _ => true) true Try.f4.params.toList args.toList ds p := hA0
  rw [Try.params4] at hA hval
  obtain ⟨v0, vs0, d0, ds0, p0, q0, hargs, rfl, rfl, h0, r0⟩ := trodAll_cons hA
  obtain ⟨rfl, rfl, rfl⟩ := trodAll_nil r0
  obtain rfl : args = #[v0] := by cases args; simp_all
  obtain ⟨cs, rfl, hsz⟩ := okWide_struct Try.underlying35 (hval 0 35 v0 rfl rfl)
  have hr := reads_trod (ty := OpTy) (by kernel_rfl) h0
  simp only [OpTy, Reads, Value.cells] at hr
  obtain ⟨_, _, e1, ⟨a, rfl, _⟩, _, _, rfl, ⟨_, _, rfl, ⟨b, rfl, _⟩, _, _, rfl, ⟨c, rfl, _⟩, _, _, rfl, ⟨s, rfl, _⟩, rfl⟩, _, _, rfl, ⟨i, rfl, _⟩, rfl⟩ := hr
  obtain rfl : cs = #[.int .i64 a, .int .i64 b, .int .i64 c, .string s, .int .i64 i] := by cases cs; simp_all
  refine (netNil_walk a b c i s W).mono fun e W' he => ?_
  cases e with
  | returned r =>
    obtain ⟨rfl, hU⟩ := he
    exact ⟨_, rfl, law_post TrylaidOut (by kernel_rfl) Try.underlying4 rfl (by kernel_rfl) (fun p hp => rfl) hW' hU⟩
  | _ => exact he.elim
set_option maxRecDepth 100000 in
theorem netNil_lifted (os : Os) (started : os.Started) (H : Type) (enc : TypeId × Value → H) :
    ReturnsInHanded {} Try.checked os 4 .any (Rows.netNilSpec.pre6 enc Try.prog Try.f4 Rows.netNilRow.domain false) (Rows.netNilSpec.post enc Try.prog Try.f4 false true false false) := by
  refine returnsInHanded_of_change (C := Try.checked) Tryown started (by kernel_rfl) Try.func4
    (ChangeSpec.witness6 (enc := enc) (C := Try.checked) false ⟨#[], #[.agg #[.int .i64 0, .int .i64 0, .int .i64 0, .string .empty, .int .i64 0]], []⟩ 8 (by kernel_rfl) (by kernel_rfl) (by kernel_rfl) (by kernel_rfl)) ?_
  intro W base args ds gs before hval hW hcnd _
  exact netNil_contract H enc W base args ds gs before hval hW
theorem netNil_holds : Rows.NetNilSaid :=
  OpenClaim.holds_of_wide 4 Try.f4 rfl rfl rfl rfl rfl rfl rfl ⟨rfl, rfl, rfl, rfl, rfl⟩ rfl rfl rfl rfl rfl (by kernel_rfl) Try.func4 (by kernel_rfl)
    (of_decide_eq_true (by kernel_rfl)) (by unfold Func.isWrapper; first | (rw [if_pos (by decide +kernel)]; kernel_rfl) | (rw [if_neg (by decide +kernel)]; exact ⟨rfl, rfl⟩))
    (fun os started H enc _ => netNil_lifted os started H enc)
end Go.Proofs.Ytfhaehkofeiobaa
