

/-
  The statement FnExactLodFind, proved. No condition beside the row's own.
-/
import Derived.Test.YtejfecmmcghpmaaGreatOpenP
import Derived.Test.YtejfecmmcghpmaaGreatLawFind
namespace Go.Proofs.YtejfecmmcghpmaaGreat
set_option linter.unusedSimpArgs false
set_option linter.unusedVariables false
open Go.ChangeShapes Go.WideShapes Go.ChangeAt Go.RowKit Go.Joins
open Go.ChangeMaps (open_string shut_string)

set_option maxRecDepth 100000 in
theorem fnExactLodFind_lifted (os : Os) (started : os.Started) (H : Type) (enc : TypeId × Value → H) :
    ReturnsInHanded {} Tryz.checked os 5 .any (Rows.fnExactLodFindSpec.pre6 enc Tryz.prog Tryz.f5 Rows.fnExactLodFindRow.domain false) (Rows.fnExactLodFindSpec.post enc Tryz.prog Tryz.f5 false true false false) := by
  refine returnsInHanded_of_change (C := Tryz.checked) own started (by kernel_rfl) Tryz.func5
    (ChangeSpec.witness6 (enc := enc) (C := Tryz.checked) false ⟨#[], #[.agg #[.slice none 0 0], .int .i64 0, .string ⟨#[]⟩], []⟩ 8 (by kernel_rfl) (by kernel_rfl) (by kernel_rfl) (by kernel_rfl)) ?_
  intro W base args ds gs before hval0 hW hcnd _
  have hval : ∀ (j : Nat) t v, Tryz.f5.params[j]? = some t → args[j]? = some v → Value.okWide Tryz.prog W .any base t v := hval0
  have hW' := hW
  obtain ⟨p, q, hA0, hV, rfl, hfz, hnd⟩ := hW
  have hA : DataW.TrodAll enc Tryz.prog W 0 (fun _ => true) true Tryz.f5.params.toList args.toList ds p := hA0
  rw [Tryz.params5] at hA hval
  clear hA0 hval0
  obtain ⟨v0, v1', v2', d0, d1, d2, p0, p1, p2, rfl, rfl, rfl, h0, h1, h2⟩ := trodAll_three hA
  obtain ⟨rfl, rfl⟩ := trodVars_none hV
  obtain ⟨x, cs, rfl, v1, rfl, s1⟩ := open_struct Tryz.underlying24 (reads_LodPlan enc W) (hval 0 24 v0 rfl rfl) h0
  obtain ⟨k, rfl, rfl, rfl, _⟩ := open_int Tryz.underlying3 (hval 1 3 v1' rfl rfl) h1
  obtain ⟨s, rfl, rfl, rfl, hs⟩ := open_string Tryz.underlying9 (hval 2 9 v2' rfl rfl) h2
  refine (L_FnExactLodFind x v1 k s W s1 hs).mono fun e W' h => ?_
  obtain ⟨rfl, hb⟩ := h
  exact ⟨_, rfl, law_post (s := Rows.fnExactLodFindSpec) hW' hb rfl rfl rfl Tryz.underlying4 (by rw [Tryz.params5]; kernel_rfl)⟩
theorem fnExactLodFind_holds : Rows.FnExactLodFindSaid :=
  OpenClaim.holds_of_wide 5 Tryz.f5 rfl rfl rfl rfl rfl rfl rfl ⟨rfl, rfl, rfl, rfl, rfl⟩ rfl rfl rfl rfl rfl (by kernel_rfl) Tryz.func5 (by kernel_rfl)
    (of_decide_eq_true (by kernel_rfl)) (by unfold Func.isWrapper; first | (rw [if_pos (by decide +kernel)]; kernel_rfl) | (rw [if_neg (by decide +kernel)]; exact ⟨rfl, rfl⟩))
    (fun os started H enc _ => fnExactLodFind_lifted os started H enc)

end Go.Proofs.YtejfecmmcghpmaaGreat
