/-
  CacheScripts is proved: whatever is put and asked for, a cache answers just what the document says; no condition.
-/
import Derived.Test.YtijmbpokglohbaaCaSc
import Derived.Test.YtijmbpokglohbaaCaR
namespace Go.Proofs.Ytijmbpokglohbaa
open Go.ChangeShapes Go.WideShapes Go.ChangeAt Go.RowKit
set_option linter.unusedSimpArgs false
set_option linter.unusedVariables false
set_option maxRecDepth 100000 in
theorem cacheScripts_contract (H : Type) (enc : TypeId × Value → H) (W : World) (base : Nat) (args : Array Value) (ds gs : List (DataW H)) (before : List MemPlace)
    (hval : ∀ (j : Nat) t v, Try.f9.params[j]? = some t → args[j]? = some v → Value.okWide Try.prog W .any base t v)
    (hW : DataW.Whole enc Try.prog Try.f9.params.toList Rows.cacheScriptsSpec.vars false W args.toList ds gs before) :
    Calls Try.prog 9 args W fun e W' => ∃ v, e = .returned v ∧ Rows.cacheScriptsSpec.post enc Try.prog Try.f9 false true false false W args v W' := by
  have hW' := hW
  obtain ⟨p, q, hA0, hV, rfl, hfz, hnd⟩ := hW
  have hA : DataW.TrodAll enc Try.prog W 0 (fun _ => true) true Try.f9.params.toList args.toList ds p := hA0
  rw [Try.params9] at hA hval
  obtain ⟨v0, vs0, d0, ds0, p0, q0, hargs, rfl, rfl, h0, r0⟩ := trodAll_cons hA
  obtain ⟨v1, vs1, d1, ds1, p1, q1, rfl, rfl, rfl, h1, r1⟩ := trodAll_cons r0
  obtain ⟨v2, vs2, d2, ds2, p2, q2, rfl, rfl, rfl, h2, r2⟩ := trodAll_cons r1
  obtain ⟨rfl, rfl, rfl⟩ := trodAll_nil r2
  obtain rfl : args = #[v0, v1, v2] := by cases args; simp_all
  obtain ⟨i0, rfl, rfl, rfl, wi0⟩ := open_int Try.underlying3 (hval 0 3 v0 rfl rfl) h0
  obtain ⟨i1, rfl, rfl, rfl, wi1⟩ := open_int Try.underlying3 (hval 1 3 v1 rfl rfl) h1
  obtain ⟨ao2, cap2, L2, rfl, hS2, hl2⟩ := oper_of (okWide_slice Try.underlying51 (hval 2 51 v2 rfl rfl)) (reads_trod (ty := .slice OpeTy) (by kernel_rfl) h2)
  refine (cacheScripts_walk i0 i1 ao2 cap2 L2 W hS2 hl2).mono fun e W1 he => ?_
  cases e with
  | returned r =>
    obtain ⟨rfl, hU⟩ := he
    exact ⟨_, rfl, law_post TrylaidOut (by kernel_rfl) Try.underlying4 rfl (by kernel_rfl) (fun p hp => rfl) hW' hU⟩
  | _ => exact he.elim
set_option maxRecDepth 100000 in
theorem cacheScripts_lifted (os : Os) (started : os.Started) (H : Type) (enc : TypeId × Value → H) :
    ReturnsInHanded {} Try.checked os 9 .any (Rows.cacheScriptsSpec.pre6 enc Try.prog Try.f9 Rows.cacheScriptsRow.domain false) (Rows.cacheScriptsSpec.post enc Try.prog Try.f9 false true false false) := by
  refine returnsInHanded_of_change (C := Try.checked) Tryown started (by kernel_rfl) Try.func9
    (ChangeSpec.witness6 (enc := enc) (C := Try.checked) false ⟨#[], #[.int .i64 0, .int .i64 0, .slice none 0 0], []⟩ 8 (by kernel_rfl) (by kernel_rfl) (by kernel_rfl) (by kernel_rfl)) ?_
  intro W base args ds gs before hval hW hcnd _
  exact cacheScripts_contract H enc W base args ds gs before hval hW
theorem cacheScripts_holds : Rows.CacheScriptsSaid :=
  OpenClaim.holds_of_wide 9 Try.f9 rfl rfl rfl rfl rfl rfl rfl ⟨rfl, rfl, rfl, rfl, rfl⟩ rfl rfl rfl rfl rfl (by kernel_rfl) Try.func9 (by kernel_rfl)
    (of_decide_eq_true (by kernel_rfl)) (by unfold Func.isWrapper; first | (rw [if_pos (by decide +kernel)]; kernel_rfl) | (rw [if_neg (by decide +kernel)]; exact ⟨rfl, rfl⟩))
    (fun os started H enc _ => cacheScripts_lifted os started H enc)
end Go.Proofs.Ytijmbpokglohbaa
