/-
  BailBeyond is proved: records of names that are not under the zone change nothing, wherever they stand; no condition.
-/
import Derived.Test.YtijmbpokglohbaaBaXb
import Derived.Test.YtijmbpokglohbaaRd
import Derived.Test.YtijmbpokglohbaaBeR
namespace Go.Proofs.Ytijmbpokglohbaa
open Go.ChangeShapes Go.WideShapes Go.ChangeAt Go.RowKit
set_option linter.unusedSimpArgs false
set_option linter.unusedVariables false
set_option maxRecDepth 100000 in
theorem bailBeyond_contract (H : Type) (enc : TypeId × Value → H) (W : World) (base : Nat) (args : Array Value) (ds gs : List (DataW H)) (before : List MemPlace)
    (hval : ∀ (j : Nat) t v, Try.f5.params[j]? = some t → args[j]? = some v → Value.okWide Try.prog W .any base t v)
    (hW : DataW.Whole enc Try.prog Try.f5.params.toList Rows.bailBeyondSpec.vars false W args.toList ds gs before) :
    Calls Try.prog 5 args W fun e W' => ∃ v, e = .returned v ∧ Rows.bailBeyondSpec.post enc Try.prog Try.f5 false true false false W args v W' := by
  have hW' := hW
  obtain ⟨p, q, hA0, hV, rfl, hfz, hnd⟩ := hW
  have hA : DataW.TrodAll enc Try.prog W 0 (fun _ => true) true Try.f5.params.toList args.toList ds p := hA0
  rw [Try.params5] at hA hval
  obtain ⟨v0, vs0, d0, ds0, p0, q0, hargs, rfl, rfl, h0, r0⟩ := trodAll_cons hA
  obtain ⟨rfl, rfl, rfl⟩ := trodAll_nil r0
  obtain rfl : args = #[v0] := by cases args; simp_all
  obtain ⟨cs0, rfl, hsz0⟩ := okWide_struct Try.underlying38 (hval 0 38 v0 rfl rfl)
  obtain ⟨n0, k0, M0, q0, a0, s0, x0, cq0, ca0, cn0, cx0, z0, ll0, cl0, l0, rfl, hS0, hB0, hR0, hL0⟩ := more_arg (reads_trod (ty := MoreTy) (by kernel_rfl) h0)
  refine (bailBeyond_walk n0 k0 M0 q0 a0 s0 x0 cq0 ca0 cn0 cx0 z0 ll0 cl0 l0 W hS0 hB0 hR0 hL0).mono fun e W1 he => ?_
  cases e with
  | returned r =>
    obtain ⟨rfl, hU⟩ := he
    exact ⟨_, rfl, law_post TrylaidOut (by kernel_rfl) Try.underlying4 rfl (by kernel_rfl) (fun p hp => rfl) hW' hU⟩
  | _ => exact he.elim
set_option maxRecDepth 100000 in
theorem bailBeyond_lifted (os : Os) (started : os.Started) (H : Type) (enc : TypeId × Value → H) :
    ReturnsInHanded {} Try.checked os 5 .any (Rows.bailBeyondSpec.pre6 enc Try.prog Try.f5 Rows.bailBeyondRow.domain false) (Rows.bailBeyondSpec.post enc Try.prog Try.f5 false true false false) := by
  refine returnsInHanded_of_change (C := Try.checked) Tryown started (by kernel_rfl) Try.func5
    (ChangeSpec.witness6 (enc := enc) (C := Try.checked) false ⟨#[], #[.agg #[.string .empty, .int .i64 0, .int .i64 0, .bool false, .int .i64 0, .bool false, .bool false, .bool false, .bool false, .int .i64 0, .slice none 0 0, .slice none 0 0, .slice none 0 0, .slice none 0 0, .int .i64 0, .string .empty, .slice none 0 0]], []⟩ 8 (by kernel_rfl) (by kernel_rfl) (by kernel_rfl) (by kernel_rfl)) ?_
  intro W base args ds gs before hval hW hcnd _
  exact bailBeyond_contract H enc W base args ds gs before hval hW
theorem bailBeyond_holds : Rows.BailBeyondSaid :=
  OpenClaim.holds_of_wide 5 Try.f5 rfl rfl rfl rfl rfl rfl rfl ⟨rfl, rfl, rfl, rfl, rfl⟩ rfl rfl rfl rfl rfl (by kernel_rfl) Try.func5 (by kernel_rfl)
    (of_decide_eq_true (by kernel_rfl)) (by unfold Func.isWrapper; first | (rw [if_pos (by decide +kernel)]; kernel_rfl) | (rw [if_neg (by decide +kernel)]; exact ⟨rfl, rfl⟩))
    (fun os started H enc _ => bailBeyond_lifted os started H enc)
end Go.Proofs.Ytijmbpokglohbaa
