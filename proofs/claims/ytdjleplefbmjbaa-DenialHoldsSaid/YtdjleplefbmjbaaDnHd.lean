/-
  DenialHolds is proved: what is denied is told so, as long as its time is not over; no condition.
-/
import Derived.Test.YtdjleplefbmjbaaDnHdW
import Derived.Test.YtdjleplefbmjbaaRd
namespace Go.Proofs.Ytdjleplefbmjbaa
open Go.ChangeShapes Go.WideShapes Go.ChangeAt Go.RowKit
set_option linter.unusedSimpArgs false
set_option linter.unusedVariables false
set_option maxRecDepth 100000 in
theorem denialHolds_contract (H : Type) (enc : TypeId × Value → H) (W : World) (base : Nat) (args : Array Value) (ds gs : List (DataW H)) (before : List MemPlace)
    (hval : ∀ (j : Nat) t v, Try.f12.params[j]? = some t → args[j]? = some v → Value.okWide Try.prog W .any base t v)
    (hW : DataW.Whole enc Try.prog Try.f12.params.toList Rows.denialHoldsSpec.vars false W args.toList ds gs before) :
    Calls Try.prog 12 args W fun e W' => ∃ v, e = .returned v ∧ Rows.denialHoldsSpec.post enc Try.prog Try.f12 false true false false W args v W' := by
  have hW' := hW
  obtain ⟨p, q, hA0, hV, rfl, hfz, hnd⟩ := hW
  have hA : DataW.TrodAll enc Try.prog W 0 (fun _ => true) true Try.f12.params.toList args.toList ds p := hA0
  rw [Try.params12] at hA hval
  obtain ⟨v0, vs0, d0, ds0, p0, q0, hargs, rfl, rfl, h0, r0⟩ := trodAll_cons hA
  obtain ⟨v1, vs1, d1, ds1, p1, q1, rfl, rfl, rfl, h1, r1⟩ := trodAll_cons r0
  obtain ⟨v2, vs2, d2, ds2, p2, q2, rfl, rfl, rfl, h2, r2⟩ := trodAll_cons r1
  obtain ⟨rfl, rfl, rfl⟩ := trodAll_nil r2
  obtain rfl : args = #[v0, v1, v2] := by cases args; simp_all
  obtain ⟨cs0, rfl, hsz0⟩ := okWide_struct Try.underlying50 (hval 0 50 v0 rfl rfl)
  have hr0 := reads_trod (ty := (.st (.cons (.int .i64) (.cons (.st (.cons .str (.cons (.int .i64) .fin))) (.cons (.int .i64) (.cons (.st (.cons .str (.cons (.int .i64) (.cons (.int .i64) (.cons .str .fin))))) (.cons (.int .i64) .fin))))))) (by kernel_rfl) h0
  simp only [Reads, Value.cells] at hr0
  obtain ⟨_, _, ee0, ⟨d0, rfl, _⟩, _, _, rfl, ⟨_, _, rfl, ⟨⟨⟨a0⟩⟩, rfl, _⟩, _, _, rfl, ⟨y0, rfl, _⟩, rfl⟩, _, _, rfl, ⟨u0, rfl, _⟩, _, _, rfl, ⟨_, _, rfl, ⟨⟨⟨m0⟩⟩, rfl, _⟩, _, _, rfl, ⟨n0, rfl, _⟩, _, _, rfl, ⟨j0, rfl, _⟩, _, _, rfl, ⟨⟨⟨s0⟩⟩, rfl, _⟩, rfl⟩, _, _, rfl, ⟨t0, rfl, _⟩, rfl⟩ := hr0
  obtain rfl : cs0 = #[.int .i64 d0, .string ⟨⟨a0⟩⟩, .int .i64 y0, .int .i64 u0, .string ⟨⟨m0⟩⟩, .int .i64 n0, .int .i64 j0, .string ⟨⟨s0⟩⟩, .int .i64 t0] := by cases cs0; simp_all
  obtain ⟨i1, rfl, rfl, rfl, wi1⟩ := open_int Try.underlying3 (hval 1 3 v1 rfl rfl) h1
  obtain ⟨i2, rfl, rfl, rfl, wi2⟩ := open_int Try.underlying3 (hval 2 3 v2 rfl rfl) h2
  refine (denialHolds_walk ⟨d0, a0, y0, u0, ⟨m0, n0, j0, s0⟩, t0⟩ i1 i2 W).mono fun e W1 he => ?_
  cases e with
  | returned r =>
    obtain ⟨rfl, hU⟩ := he
    exact ⟨_, rfl, law_post TrylaidOut (by kernel_rfl) Try.underlying4 rfl (by kernel_rfl) (fun p hp => rfl) hW' hU⟩
  | _ => exact he.elim
set_option maxRecDepth 100000 in
theorem denialHolds_lifted (os : Os) (started : os.Started) (H : Type) (enc : TypeId × Value → H) :
    ReturnsInHanded {} Try.checked os 12 .any (Rows.denialHoldsSpec.pre6 enc Try.prog Try.f12 Rows.denialHoldsRow.domain false) (Rows.denialHoldsSpec.post enc Try.prog Try.f12 false true false false) := by
  refine returnsInHanded_of_change (C := Try.checked) Tryown started (by kernel_rfl) Try.func12
    (ChangeSpec.witness6 (enc := enc) (C := Try.checked) false ⟨#[], #[.agg #[.int .i64 0, .string .empty, .int .i64 0, .int .i64 0, .string .empty, .int .i64 0, .int .i64 0, .string .empty, .int .i64 0], .int .i64 0, .int .i64 0], []⟩ 8 (by kernel_rfl) (by kernel_rfl) (by kernel_rfl) (by kernel_rfl)) ?_
  intro W base args ds gs before hval hW hcnd _
  exact denialHolds_contract H enc W base args ds gs before hval hW
theorem denialHolds_holds : Rows.DenialHoldsSaid :=
  OpenClaim.holds_of_wide 12 Try.f12 rfl rfl rfl rfl rfl rfl rfl ⟨rfl, rfl, rfl, rfl, rfl⟩ rfl rfl rfl rfl rfl (by kernel_rfl) Try.func12 (by kernel_rfl)
    (of_decide_eq_true (by kernel_rfl)) (by unfold Func.isWrapper; first | (rw [if_pos (by decide +kernel)]; kernel_rfl) | (rw [if_neg (by decide +kernel)]; exact ⟨rfl, rfl⟩))
    (fun os started H enc _ => denialHolds_lifted os started H enc)
end Go.Proofs.Ytdjleplefbmjbaa
