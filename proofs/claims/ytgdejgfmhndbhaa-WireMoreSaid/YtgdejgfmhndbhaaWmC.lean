/-
  WireMore is proved: a record more makes a message longer by no more than it takes uncompressed; no condition.
-/
import Derived.Test.YtgdejgfmhndbhaaWmW
import Derived.Test.YtgdejgfmhndbhaaRd
namespace Go.Proofs.Ytgdejgfmhndbhaa
open Go.ChangeShapes Go.WideShapes Go.ChangeAt Go.RowKit
set_option linter.unusedSimpArgs false
set_option linter.unusedVariables false
set_option maxRecDepth 100000 in
theorem wireMore_contract (H : Type) (enc : TypeId × Value → H) (W : World) (base : Nat) (args : Array Value) (ds gs : List (DataW H)) (before : List MemPlace)
    (hval : ∀ (j : Nat) t v, Try.f9.params[j]? = some t → args[j]? = some v → Value.okWide Try.prog W .any base t v)
    (hW : DataW.Whole enc Try.prog Try.f9.params.toList Rows.wireMoreSpec.vars false W args.toList ds gs before) :
    Calls Try.prog 9 args W fun e W' => ∃ v, e = .returned v ∧ Rows.wireMoreSpec.post enc Try.prog Try.f9 false true false false W args v W' := by
  have hW' := hW
  obtain ⟨p, q, hA0, hV, rfl, hfz, hnd⟩ := hW
  have hA : DataW.TrodAll enc Try.prog W 0 (fun _ => true) true Try.f9.params.toList args.toList ds p := hA0
  rw [Try.params9] at hA hval
  obtain ⟨v0, vs0, d0, ds0, p0, q0, hargs, rfl, rfl, h0, r0⟩ := trodAll_cons hA
  obtain ⟨v1, vs1, d1, ds1, p1, q1, rfl, rfl, rfl, h1, r1⟩ := trodAll_cons r0
  obtain ⟨rfl, rfl, rfl⟩ := trodAll_nil r1
  obtain rfl : args = #[v0, v1] := by cases args; simp_all
  obtain ⟨cs0, rfl, hsz0⟩ := okWide_struct Try.underlying25 (hval 0 25 v0 rfl rfl)
  obtain ⟨M0, q0, a0, n0, x0, cq0, ca0, cn0, cx0, rfl, hS0, hB0⟩ := msg_arg (reads_trod (ty := MsgTy) (by kernel_rfl) h0)
  obtain ⟨cs1, rfl, hsz1⟩ := okWide_struct Try.underlying46 (hval 1 46 v1 rfl rfl)
  have hr1 := reads_trod (ty := (.st (.cons .str (.cons (.int .i64) (.cons (.int .i64) (.cons .str .fin)))))) (by kernel_rfl) h1
  simp only [Reads, Value.cells] at hr1
  obtain ⟨_, _, ee1, ⟨⟨⟨a1⟩⟩, rfl, _⟩, _, _, rfl, ⟨b1, rfl, _⟩, _, _, rfl, ⟨c1, rfl, _⟩, _, _, rfl, ⟨⟨⟨e1⟩⟩, rfl, _⟩, rfl⟩ := hr1
  obtain rfl : cs1 = #[.string ⟨⟨a1⟩⟩, .int .i64 b1, .int .i64 c1, .string ⟨⟨e1⟩⟩] := by cases cs1; simp_all
  refine (wireMore_walk M0 q0 a0 n0 x0 cq0 ca0 cn0 cx0 a1 b1 c1 e1 W hS0 hB0).mono fun e W1 he => ?_
  cases e with
  | returned r =>
    obtain ⟨rfl, hU⟩ := he
    exact ⟨_, rfl, law_post TrylaidOut (by kernel_rfl) Try.underlying4 rfl (by kernel_rfl) (fun p hp => rfl) hW' hU⟩
  | _ => exact he.elim
set_option maxRecDepth 100000 in
theorem wireMore_lifted (os : Os) (started : os.Started) (H : Type) (enc : TypeId × Value → H) :
    ReturnsInHanded {} Try.checked os 9 .any (Rows.wireMoreSpec.pre6 enc Try.prog Try.f9 Rows.wireMoreRow.domain false) (Rows.wireMoreSpec.post enc Try.prog Try.f9 false true false false) := by
  refine returnsInHanded_of_change (C := Try.checked) Tryown started (by kernel_rfl) Try.func9
    (ChangeSpec.witness6 (enc := enc) (C := Try.checked) false ⟨#[], #[.agg #[.int .i64 0, .bool false, .int .i64 0, .bool false, .bool false, .bool false, .bool false, .int .i64 0, .slice none 0 0, .slice none 0 0, .slice none 0 0, .slice none 0 0, .int .i64 0], .agg #[.string .empty, .int .i64 0, .int .i64 0, .string .empty]], []⟩ 8 (by kernel_rfl) (by kernel_rfl) (by kernel_rfl) (by kernel_rfl)) ?_
  intro W base args ds gs before hval hW hcnd _
  exact wireMore_contract H enc W base args ds gs before hval hW
theorem wireMore_holds : Rows.WireMoreSaid :=
  OpenClaim.holds_of_wide 9 Try.f9 rfl rfl rfl rfl rfl rfl rfl ⟨rfl, rfl, rfl, rfl, rfl⟩ rfl rfl rfl rfl rfl (by kernel_rfl) Try.func9 (by kernel_rfl)
    (of_decide_eq_true (by kernel_rfl)) (by unfold Func.isWrapper; first | (rw [if_pos (by decide +kernel)]; kernel_rfl) | (rw [if_neg (by decide +kernel)]; exact ⟨rfl, rfl⟩))
    (fun os started H enc _ => wireMore_lifted os started H enc)
end Go.Proofs.Ytgdejgfmhndbhaa
