/-
  BailJudges is proved: what any reply of any zone is, and what goes with it; no condition.
-/
import Derived.Test.YtijmbpokglohbaaBaXj
import Derived.Test.YtijmbpokglohbaaRd
namespace Go.Proofs.Ytijmbpokglohbaa
open Go.ChangeShapes Go.WideShapes Go.ChangeAt Go.RowKit
set_option linter.unusedSimpArgs false
set_option linter.unusedVariables false
set_option maxRecDepth 100000 in
theorem bailJudges_contract (H : Type) (enc : TypeId × Value → H) (W : World) (base : Nat) (args : Array Value) (ds gs : List (DataW H)) (before : List MemPlace)
    (hval : ∀ (j : Nat) t v, Try.f4.params[j]? = some t → args[j]? = some v → Value.okWide Try.prog W .any base t v)
    (hW : DataW.Whole enc Try.prog Try.f4.params.toList Rows.bailJudgesSpec.vars false W args.toList ds gs before) :
    Calls Try.prog 4 args W fun e W' => ∃ v, e = .returned v ∧ Rows.bailJudgesSpec.post enc Try.prog Try.f4 false true false false W args v W' := by
  have hW' := hW
  obtain ⟨p, q, hA0, hV, rfl, hfz, hnd⟩ := hW
  have hA : DataW.TrodAll enc Try.prog W 0 (fun _ => true) true Try.f4.params.toList args.toList ds p := hA0
  rw [Try.params4] at hA hval
  obtain ⟨v0, vs0, d0, ds0, p0, q0, hargs, rfl, rfl, h0, r0⟩ := trodAll_cons hA
  obtain ⟨v1, vs1, d1, ds1, p1, q1, rfl, rfl, rfl, h1, r1⟩ := trodAll_cons r0
  obtain ⟨v2, vs2, d2, ds2, p2, q2, rfl, rfl, rfl, h2, r2⟩ := trodAll_cons r1
  obtain ⟨rfl, rfl, rfl⟩ := trodAll_nil r2
  obtain rfl : args = #[v0, v1, v2] := by cases args; simp_all
  obtain ⟨cs0, rfl, hsz0⟩ := okWide_struct Try.underlying31 (hval 0 31 v0 rfl rfl)
  have hr0 := reads_trod (ty := (.st (.cons .str (.cons (.int .i64) .fin)))) (by kernel_rfl) h0
  simp only [Reads, Value.cells] at hr0
  obtain ⟨_, _, ee0, ⟨⟨⟨a0⟩⟩, rfl, _⟩, _, _, rfl, ⟨b0, rfl, _⟩, rfl⟩ := hr0
  obtain rfl : cs0 = #[.string ⟨⟨a0⟩⟩, .int .i64 b0] := by cases cs0; simp_all
  obtain ⟨cs1, rfl, hsz1⟩ := okWide_struct Try.underlying25 (hval 1 25 v1 rfl rfl)
  obtain ⟨M1, q1, a1, n1, x1, cq1, ca1, cn1, cx1, rfl, hS1, hB1⟩ := msg_arg (reads_trod (ty := MsgTy) (by kernel_rfl) h1)
  obtain ⟨⟨⟨s2⟩⟩, rfl, rfl, rfl, ws2⟩ := Go.ChangeMaps.open_string Try.underlying29 (hval 2 29 v2 rfl rfl) h2
  refine (bailJudges_walk a0 b0 M1 q1 a1 n1 x1 cq1 ca1 cn1 cx1 s2 W hS1 hB1).mono fun e W1 he => ?_
  cases e with
  | returned r =>
    obtain ⟨rfl, hU⟩ := he
    exact ⟨_, rfl, law_post TrylaidOut (by kernel_rfl) Try.underlying4 rfl (by kernel_rfl) (fun p hp => rfl) hW' hU⟩
  | _ => exact he.elim
set_option maxRecDepth 100000 in
theorem bailJudges_lifted (os : Os) (started : os.Started) (H : Type) (enc : TypeId × Value → H) :
    ReturnsInHanded {} Try.checked os 4 .any (Rows.bailJudgesSpec.pre6 enc Try.prog Try.f4 Rows.bailJudgesRow.domain false) (Rows.bailJudgesSpec.post enc Try.prog Try.f4 false true false false) := by
  refine returnsInHanded_of_change (C := Try.checked) Tryown started (by kernel_rfl) Try.func4
    (ChangeSpec.witness6 (enc := enc) (C := Try.checked) false ⟨#[], #[.agg #[.string .empty, .int .i64 0], .agg #[.int .i64 0, .bool false, .int .i64 0, .bool false, .bool false, .bool false, .bool false, .int .i64 0, .slice none 0 0, .slice none 0 0, .slice none 0 0, .slice none 0 0, .int .i64 0], .string .empty], []⟩ 8 (by kernel_rfl) (by kernel_rfl) (by kernel_rfl) (by kernel_rfl)) ?_
  intro W base args ds gs before hval hW hcnd _
  exact bailJudges_contract H enc W base args ds gs before hval hW
theorem bailJudges_holds : Rows.BailJudgesSaid :=
  OpenClaim.holds_of_wide 4 Try.f4 rfl rfl rfl rfl rfl rfl rfl ⟨rfl, rfl, rfl, rfl, rfl⟩ rfl rfl rfl rfl rfl (by kernel_rfl) Try.func4 (by kernel_rfl)
    (of_decide_eq_true (by kernel_rfl)) (by unfold Func.isWrapper; first | (rw [if_pos (by decide +kernel)]; kernel_rfl) | (rw [if_neg (by decide +kernel)]; exact ⟨rfl, rfl⟩))
    (fun os started H enc _ => bailJudges_lifted os started H enc)
end Go.Proofs.Ytijmbpokglohbaa
