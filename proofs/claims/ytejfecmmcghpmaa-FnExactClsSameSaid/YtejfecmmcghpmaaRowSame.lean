

/-
  The statement FnExactClsSame, proved. No condition beside the row's own.
-/
import Derived.Test.YtejfecmmcghpmaaOpenC
import Derived.Test.YtejfecmmcghpmaaLawSame
namespace Go.Proofs.Ytejfecmmcghpmaa
set_option linter.unusedSimpArgs false
set_option linter.unusedVariables false
open Go.ChangeShapes Go.WideShapes Go.ChangeAt Go.RowKit Go.Joins

set_option maxRecDepth 100000 in
theorem fnExactClsSame_lifted (os : Os) (started : os.Started) (H : Type) (enc : TypeId × Value → H) :
    ReturnsInHanded {} Try.checked os 3 .any (Rows.fnExactClsSameSpec.pre6 enc Try.prog Try.f3 Rows.fnExactClsSameRow.domain false) (Rows.fnExactClsSameSpec.post enc Try.prog Try.f3 false true false false) := by
  refine returnsInHanded_of_change (C := Try.checked) own started (by kernel_rfl) Try.func3
    (ChangeSpec.witness6 (enc := enc) (C := Try.checked) false ⟨#[], #[.agg #[.string ⟨#[]⟩, .string ⟨#[]⟩, .slice none 0 0, .slice none 0 0], .agg #[.string ⟨#[]⟩, .string ⟨#[]⟩, .slice none 0 0, .slice none 0 0]], []⟩ 8 (by kernel_rfl) (by kernel_rfl) (by kernel_rfl) (by kernel_rfl)) ?_
  intro W base args ds gs before hval0 hW hcnd _
  have hval : ∀ (j : Nat) t v, Try.f3.params[j]? = some t → args[j]? = some v → Value.okWide Try.prog W .any base t v := hval0
  have hW' := hW
  obtain ⟨p, q, hA0, hV, rfl, hfz, hnd⟩ := hW
  have hA : DataW.TrodAll enc Try.prog W 0 (fun _ => true) true Try.f3.params.toList args.toList ds p := hA0
  rw [Try.params3] at hA hval
  clear hA0 hval0
  obtain ⟨v0, v1', d0, d1, p0, p1, rfl, rfl, rfl, h0, h1⟩ := trodAll_two hA
  obtain ⟨rfl, rfl⟩ := trodVars_none hV
  obtain ⟨x, cs, rfl, v1, v2, rfl, s1, s2, b1, b2⟩ := open_struct Try.underlying25 (reads_ClsClass enc W) (hval 0 25 v0 rfl rfl) h0
  obtain ⟨y, cs', rfl, u1, u2, rfl, t1, t2, e1, e2⟩ := open_struct Try.underlying25 (reads_ClsClass enc W) (hval 1 25 v1' rfl rfl) h1
  refine (L_FnExactClsSame x y v1 v2 u1 u2 W s1 s2 b1 b2 t1 t2 e1 e2).mono fun e W' h => ?_
  obtain ⟨rfl, hb⟩ := h
  exact ⟨_, rfl, law_post (s := Rows.fnExactClsSameSpec) hW' hb rfl rfl rfl Try.underlying4 (by rw [Try.params3]; kernel_rfl)⟩
theorem fnExactClsSame_holds : Rows.FnExactClsSameSaid :=
  OpenClaim.holds_of_wide 3 Try.f3 rfl rfl rfl rfl rfl rfl rfl ⟨rfl, rfl, rfl, rfl, rfl⟩ rfl rfl rfl rfl rfl (by kernel_rfl) Try.func3 (by kernel_rfl)
    (of_decide_eq_true (by kernel_rfl)) (by unfold Func.isWrapper; first | (rw [if_pos (by decide +kernel)]; kernel_rfl) | (rw [if_neg (by decide +kernel)]; exact ⟨rfl, rfl⟩))
    (fun os started H enc _ => fnExactClsSame_lifted os started H enc)

end Go.Proofs.Ytejfecmmcghpmaa
