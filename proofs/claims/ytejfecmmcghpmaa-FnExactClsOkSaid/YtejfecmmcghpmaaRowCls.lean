

/-
  The statement FnExactClsOk, proved. No condition beside the row's own. Printed by gen_law.py, a program of the prover of this repo.
-/
import Derived.Test.YtejfecmmcghpmaaOpenC
import Derived.Test.YtejfecmmcghpmaaLawCls
namespace Go.Proofs.Ytejfecmmcghpmaa
set_option linter.unusedSimpArgs false
set_option linter.unusedVariables false
open Go.ChangeShapes Go.WideShapes Go.ChangeAt Go.RowKit Go.Joins

set_option maxRecDepth 100000 in
theorem fnExactClsOk_lifted (os : Os) (started : os.Started) (H : Type) (enc : TypeId × Value → H) :
    ReturnsInHanded {} Try.checked os 5 .any (Rows.fnExactClsOkSpec.pre6 enc Try.prog Try.f5 Rows.fnExactClsOkRow.domain false) (Rows.fnExactClsOkSpec.post enc Try.prog Try.f5 false true false false) := by
  refine returnsInHanded_of_change (C := Try.checked) own started (by kernel_rfl) Try.func5
    (ChangeSpec.witness6 (enc := enc) (C := Try.checked) false ⟨#[], #[.agg #[.string ⟨#[]⟩, .string ⟨#[]⟩, .slice none 0 0, .slice none 0 0]], []⟩ 8 (by kernel_rfl) (by kernel_rfl) (by kernel_rfl) (by kernel_rfl)) ?_
  intro W base args ds gs before hval0 hW hcnd _
  have hval : ∀ (j : Nat) t v, Try.f5.params[j]? = some t → args[j]? = some v → Value.okWide Try.prog W .any base t v := hval0
  have hW' := hW
  obtain ⟨p, q, hA0, hV, rfl, hfz, hnd⟩ := hW
  have hA : DataW.TrodAll enc Try.prog W 0 (fun _ => true) true Try.f5.params.toList args.toList ds p := hA0
  rw [Try.params5] at hA hval
  clear hA0 hval0
  obtain ⟨v0, d0, rfl, rfl, h0⟩ := trodAll_one hA
  obtain ⟨rfl, rfl⟩ := trodVars_none hV
  obtain ⟨x, cs, rfl, v1, v2, rfl, s1, s2, b1, b2⟩ := open_struct Try.underlying25 (reads_ClsClass enc W) (hval 0 25 v0 rfl rfl) h0
  refine (L_FnExactClsOk x v1 v2 W s1 s2 b1 b2).mono fun e W' h => ?_
  obtain ⟨rfl, hb⟩ := h
  exact ⟨_, rfl, law_post (s := Rows.fnExactClsOkSpec) hW' hb rfl rfl rfl Try.underlying4 (by rw [Try.params5]; kernel_rfl)⟩
theorem fnExactClsOk_holds : Rows.FnExactClsOkSaid :=
  OpenClaim.holds_of_wide 5 Try.f5 rfl rfl rfl rfl rfl rfl rfl ⟨rfl, rfl, rfl, rfl, rfl⟩ rfl rfl rfl rfl rfl (by kernel_rfl) Try.func5 (by kernel_rfl)
    (of_decide_eq_true (by kernel_rfl)) (by unfold Func.isWrapper; first | (rw [if_pos (by decide +kernel)]; kernel_rfl) | (rw [if_neg (by decide +kernel)]; exact ⟨rfl, rfl⟩))
    (fun os started H enc _ => fnExactClsOk_lifted os started H enc)

end Go.Proofs.Ytejfecmmcghpmaa
