/-
  TimerNil is proved: a queue that is none has nothing; no condition.
-/
import Derived.Test.YtkkncnffkmopbaaTmO
import Derived.Test.YtkkncnffkmopbaaRd
namespace Go.Proofs.Ytkkncnffkmopbaa
open Go.ChangeShapes Go.WideShapes Go.ChangeAt Go.RowKit
set_option linter.unusedSimpArgs false
set_option linter.unusedVariables false
set_option maxRecDepth 100000 in
theorem timerNil_contract (H : Type) (enc : TypeId × Value → H) (W : World) (base : Nat) (args : Array Value) (ds gs : List (DataW H)) (before : List MemPlace)
    (hval : ∀ (j : Nat) t v, Try.f4.params[j]? = some t → args[j]? = some v → Value.okWide Try.prog W .any base t v)
    (hW : DataW.Whole enc Try.prog Try.f4.params.toList Rows.timerNilSpec.vars false W args.toList ds gs before) :
    Calls Try.prog 4 args W fun e W' => ∃ v, e = .returned v ∧ Rows.timerNilSpec.post enc Try.prog Try.f4 false true false false W args v W' := by
  have hW' := hW
  obtain ⟨p, q, hA0, hV, rfl, hfz, hnd⟩ := hW
  have hA : DataW.TrodAll enc Try.prog W 0 (fun _ => true) true Try.f4.params.toList args.toList ds p := hA0
  rw [Try.params4] at hA hval
  obtain ⟨v0, vs0, d0, ds0, p0, q0, hargs, rfl, rfl, h0, r0⟩ := trodAll_cons hA
  obtain ⟨rfl, rfl, rfl⟩ := trodAll_nil r0
  obtain rfl : args = #[v0] := by cases args; simp_all
  obtain ⟨cs0, rfl, hsz0⟩ := okWide_struct Try.underlying33 (hval 0 33 v0 rfl rfl)
  have hr0 := reads_trod (ty := (.st (.cons (.int .i64) (.cons .str (.cons (.int .i64) .fin))))) (by kernel_rfl) h0
  simp only [Reads, Value.cells] at hr0
  obtain ⟨_, _, ee0, ⟨a0, rfl, _⟩, _, _, rfl, ⟨⟨⟨b0⟩⟩, rfl, _⟩, _, _, rfl, ⟨c0, rfl, _⟩, rfl⟩ := hr0
  obtain rfl : cs0 = #[.int .i64 a0, .string ⟨⟨b0⟩⟩, .int .i64 c0] := by cases cs0; simp_all
  refine (timerNil_walk ⟨a0, b0, c0⟩ W).mono fun e W1 he => ?_
  cases e with
  | returned r =>
    obtain ⟨rfl, hU⟩ := he
    exact ⟨_, rfl, law_post TrylaidOut (by kernel_rfl) Try.underlying4 rfl (by kernel_rfl) (fun p hp => rfl) hW' hU⟩
  | _ => exact he.elim
set_option maxRecDepth 100000 in
theorem timerNil_lifted (os : Os) (started : os.Started) (H : Type) (enc : TypeId × Value → H) :
    ReturnsInHanded {} Try.checked os 4 .any (Rows.timerNilSpec.pre6 enc Try.prog Try.f4 Rows.timerNilRow.domain false) (Rows.timerNilSpec.post enc Try.prog Try.f4 false true false false) := by
  refine returnsInHanded_of_change (C := Try.checked) Tryown started (by kernel_rfl) Try.func4
    (ChangeSpec.witness6 (enc := enc) (C := Try.checked) false ⟨#[], #[.agg #[.int .i64 0, .string .empty, .int .i64 0]], []⟩ 8 (by kernel_rfl) (by kernel_rfl) (by kernel_rfl) (by kernel_rfl)) ?_
  intro W base args ds gs before hval hW hcnd _
  exact timerNil_contract H enc W base args ds gs before hval hW
theorem timerNil_holds : Rows.TimerNilSaid :=
  OpenClaim.holds_of_wide 4 Try.f4 rfl rfl rfl rfl rfl rfl rfl ⟨rfl, rfl, rfl, rfl, rfl⟩ rfl rfl rfl rfl rfl (by kernel_rfl) Try.func4 (by kernel_rfl)
    (of_decide_eq_true (by kernel_rfl)) (by unfold Func.isWrapper; first | (rw [if_pos (by decide +kernel)]; kernel_rfl) | (rw [if_neg (by decide +kernel)]; exact ⟨rfl, rfl⟩))
    (fun os started H enc _ => timerNil_lifted os started H enc)
end Go.Proofs.Ytkkncnffkmopbaa
