/-
  NameTogether is proved: names under a name stand together in the order; no condition.
-/
import Derived.Test.YtdjleplefbmjbaaTogetherW
import Derived.Test.YtdjleplefbmjbaaRd
namespace Go.Proofs.Ytdjleplefbmjbaa
open Go.ChangeShapes Go.WideShapes Go.ChangeAt Go.RowKit
set_option linter.unusedSimpArgs false
set_option linter.unusedVariables false
set_option maxRecDepth 100000 in
theorem nameTogether_contract (H : Type) (enc : TypeId × Value → H) (W : World) (base : Nat) (args : Array Value) (ds gs : List (DataW H)) (before : List MemPlace)
    (hval : ∀ (j : Nat) t v, Try.f5.params[j]? = some t → args[j]? = some v → Value.okWide Try.prog W .any base t v)
    (hW : DataW.Whole enc Try.prog Try.f5.params.toList Rows.nameTogetherSpec.vars false W args.toList ds gs before) :
    Calls Try.prog 5 args W fun e W' => ∃ v, e = .returned v ∧ Rows.nameTogetherSpec.post enc Try.prog Try.f5 false true false false W args v W' := by
  have hW' := hW
  obtain ⟨p, q, hA0, hV, rfl, hfz, hnd⟩ := hW
  have hA : DataW.TrodAll enc Try.prog W 0 (fun _ => true) true Try.f5.params.toList args.toList ds p := hA0
  rw [Try.params5] at hA hval
  obtain ⟨v0, vs0, d0, ds0, p0, q0, hargs, rfl, rfl, h0, r0⟩ := trodAll_cons hA
  obtain ⟨rfl, rfl, rfl⟩ := trodAll_nil r0
  obtain rfl : args = #[v0] := by cases args; simp_all
  obtain ⟨cs0, rfl, hsz0⟩ := okWide_struct Try.underlying32 (hval 0 32 v0 rfl rfl)
  have hr0 := reads_trod (ty := (.st (.cons .str (.cons .str (.cons .str (.cons .str .fin)))))) (by kernel_rfl) h0
  simp only [Reads, Value.cells] at hr0
  obtain ⟨_, _, ee0, ⟨⟨⟨f0a⟩⟩, rfl, _⟩, _, _, rfl, ⟨⟨⟨f0b⟩⟩, rfl, _⟩, _, _, rfl, ⟨⟨⟨f0c⟩⟩, rfl, _⟩, _, _, rfl, ⟨⟨⟨f0d⟩⟩, rfl, _⟩, rfl⟩ := hr0
  obtain rfl : cs0 = #[.string ⟨⟨f0a⟩⟩, .string ⟨⟨f0b⟩⟩, .string ⟨⟨f0c⟩⟩, .string ⟨⟨f0d⟩⟩] := by cases cs0; simp_all
  refine (nameTogether_walk f0a f0b f0c f0d W).mono fun e W1 he => ?_
  cases e with
  | returned r =>
    obtain ⟨rfl, hU⟩ := he
    exact ⟨_, rfl, law_post TrylaidOut (by kernel_rfl) Try.underlying4 rfl (by kernel_rfl) (fun p hp => rfl) hW' hU⟩
  | _ => exact he.elim
set_option maxRecDepth 100000 in
theorem nameTogether_lifted (os : Os) (started : os.Started) (H : Type) (enc : TypeId × Value → H) :
    ReturnsInHanded {} Try.checked os 5 .any (Rows.nameTogetherSpec.pre6 enc Try.prog Try.f5 Rows.nameTogetherRow.domain false) (Rows.nameTogetherSpec.post enc Try.prog Try.f5 false true false false) := by
  refine returnsInHanded_of_change (C := Try.checked) Tryown started (by kernel_rfl) Try.func5
    (ChangeSpec.witness6 (enc := enc) (C := Try.checked) false ⟨#[], #[.agg #[.string .empty, .string .empty, .string .empty, .string .empty]], []⟩ 8 (by kernel_rfl) (by kernel_rfl) (by kernel_rfl) (by kernel_rfl)) ?_
  intro W base args ds gs before hval hW hcnd _
  exact nameTogether_contract H enc W base args ds gs before hval hW
theorem nameTogether_holds : Rows.NameTogetherSaid :=
  OpenClaim.holds_of_wide 5 Try.f5 rfl rfl rfl rfl rfl rfl rfl ⟨rfl, rfl, rfl, rfl, rfl⟩ rfl rfl rfl rfl rfl (by kernel_rfl) Try.func5 (by kernel_rfl)
    (of_decide_eq_true (by kernel_rfl)) (by unfold Func.isWrapper; first | (rw [if_pos (by decide +kernel)]; kernel_rfl) | (rw [if_neg (by decide +kernel)]; exact ⟨rfl, rfl⟩))
    (fun os started H enc _ => nameTogether_lifted os started H enc)
end Go.Proofs.Ytdjleplefbmjbaa
