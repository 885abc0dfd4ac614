/-
  RdataSoas is proved: the data of any beginning of authority, and the one of any data; no condition.
-/
import Derived.Test.YtebnilkcpklnmaaSoasW
import Derived.Test.YtebnilkcpklnmaaRd
namespace Go.Proofs.Ytebnilkcpklnmaa
open Go.ChangeShapes Go.WideShapes Go.ChangeAt Go.RowKit
set_option linter.unusedSimpArgs false
set_option linter.unusedVariables false
set_option maxRecDepth 100000 in
theorem rdataSoas_contract (H : Type) (enc : TypeId × Value → H) (W : World) (base : Nat) (args : Array Value) (ds gs : List (DataW H)) (before : List MemPlace)
    (hval : ∀ (j : Nat) t v, Try.f9.params[j]? = some t → args[j]? = some v → Value.okWide Try.prog W .any base t v)
    (hW : DataW.Whole enc Try.prog Try.f9.params.toList Rows.rdataSoasSpec.vars false W args.toList ds gs before) :
    Calls Try.prog 9 args W fun e W' => ∃ v, e = .returned v ∧ Rows.rdataSoasSpec.post enc Try.prog Try.f9 false true false false W args v W' := by
  have hW' := hW
  obtain ⟨p, q, hA0, hV, rfl, hfz, hnd⟩ := hW
  have hA : DataW.TrodAll enc Try.prog W 0 (fun _ => true) true Try.f9.params.toList args.toList ds p := hA0
  rw [Try.params9] at hA hval
  obtain ⟨v0, vs0, d0, ds0, p0, q0, hargs, rfl, rfl, h0, r0⟩ := trodAll_cons hA
  obtain ⟨v1, vs1, d1, ds1, p1, q1, rfl, rfl, rfl, h1, r1⟩ := trodAll_cons r0
  obtain ⟨rfl, rfl, rfl⟩ := trodAll_nil r1
  obtain rfl : args = #[v0, v1] := by cases args; simp_all
  obtain ⟨cs0, rfl, hsz0⟩ := okWide_struct Try.underlying66 (hval 0 66 v0 rfl rfl)
  have hr0 := reads_trod (ty := (.st (.cons .str (.cons .str (.cons (.int .i64) (.cons (.int .i64) (.cons (.int .i64) (.cons (.int .i64) (.cons (.int .i64) .fin))))))))) (by kernel_rfl) h0
  simp only [Reads, Value.cells] at hr0
  obtain ⟨_, _, ee0, ⟨⟨⟨m0⟩⟩, rfl, _⟩, _, _, rfl, ⟨⟨⟨l0⟩⟩, rfl, _⟩, _, _, rfl, ⟨n0a, rfl, _⟩, _, _, rfl, ⟨n0b, rfl, _⟩, _, _, rfl, ⟨n0c, rfl, _⟩, _, _, rfl, ⟨n0d, rfl, _⟩, _, _, rfl, ⟨n0e, rfl, _⟩, rfl⟩ := hr0
  obtain rfl : cs0 = #[.string ⟨⟨m0⟩⟩, .string ⟨⟨l0⟩⟩, .int .i64 n0a, .int .i64 n0b, .int .i64 n0c, .int .i64 n0d, .int .i64 n0e] := by cases cs0; simp_all
  obtain ⟨⟨⟨s1⟩⟩, rfl, rfl, rfl, ws1⟩ := Go.ChangeMaps.open_string Try.underlying9 (hval 1 9 v1 rfl rfl) h1
  refine (rdataSoas_walk ⟨m0, l0, n0a, n0b, n0c, n0d, n0e⟩ s1 W).mono fun e W1 he => ?_
  cases e with
  | returned r =>
    obtain ⟨rfl, hU⟩ := he
    exact ⟨_, rfl, law_post TrylaidOut (by kernel_rfl) Try.underlying4 rfl (by kernel_rfl) (fun p hp => rfl) hW' hU⟩
  | _ => exact he.elim
set_option maxRecDepth 100000 in
theorem rdataSoas_lifted (os : Os) (started : os.Started) (H : Type) (enc : TypeId × Value → H) :
    ReturnsInHanded {} Try.checked os 9 .any (Rows.rdataSoasSpec.pre6 enc Try.prog Try.f9 Rows.rdataSoasRow.domain false) (Rows.rdataSoasSpec.post enc Try.prog Try.f9 false true false false) := by
  refine returnsInHanded_of_change (C := Try.checked) Tryown started (by kernel_rfl) Try.func9
    (ChangeSpec.witness6 (enc := enc) (C := Try.checked) false ⟨#[], #[.agg #[.string .empty, .string .empty, .int .i64 0, .int .i64 0, .int .i64 0, .int .i64 0, .int .i64 0], .string .empty], []⟩ 8 (by kernel_rfl) (by kernel_rfl) (by kernel_rfl) (by kernel_rfl)) ?_
  intro W base args ds gs before hval hW hcnd _
  exact rdataSoas_contract H enc W base args ds gs before hval hW
theorem rdataSoas_holds : Rows.RdataSoasSaid :=
  OpenClaim.holds_of_wide 9 Try.f9 rfl rfl rfl rfl rfl rfl rfl ⟨rfl, rfl, rfl, rfl, rfl⟩ rfl rfl rfl rfl rfl (by kernel_rfl) Try.func9 (by kernel_rfl)
    (of_decide_eq_true (by kernel_rfl)) (by unfold Func.isWrapper; first | (rw [if_pos (by decide +kernel)]; kernel_rfl) | (rw [if_neg (by decide +kernel)]; exact ⟨rfl, rfl⟩))
    (fun os started H enc _ => rdataSoas_lifted os started H enc)
end Go.Proofs.Ytebnilkcpklnmaa
