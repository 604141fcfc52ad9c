

/-
  The statement FnExactTagMay, proved. No condition beside the row's own.
-/
import Derived.Test.YtejfecmmcghpmaaGreatOpenP
import Derived.Test.YtejfecmmcghpmaaGreatLawMay
namespace Go.Proofs.YtejfecmmcghpmaaGreat
set_option linter.unusedSimpArgs false
set_option linter.unusedVariables false
open Go.ChangeShapes Go.WideShapes Go.ChangeAt Go.RowKit Go.Joins
open Go.ChangeMaps (open_string shut_string)

theorem trodAll_four {H : Type} {enc : TypeId × Value → H} {P : Program} {w : World} {base : Nat} {spare : Nat → Bool} {held : Bool} {t t' t'' t3 : TypeId} {args : Array Value} {ds : List (DataW H)} {ps : List MemPlace} (h : DataW.TrodAll enc P w base spare held [t, t', t'', t3] args.toList ds ps) :
    ∃ v v' v'' v3 d d' d'' d3 p p' p'' p3, args = #[v, v', v'', v3] ∧ ds = [d, d', d'', d3] ∧ ps = p ++ p' ++ p'' ++ p3 ∧ DataW.Trod enc P w base spare held t v d p ∧ DataW.Trod enc P w base spare held t' v' d' p' ∧ DataW.Trod enc P w base spare held t'' v'' d'' p'' ∧ DataW.Trod enc P w base spare held t3 v3 d3 p3 := by
  obtain ⟨v, vs, d, ds', p, q, hargs, rfl, rfl, hd, hrest⟩ := trodAll_cons h
  obtain ⟨v', vs', d', ds'', p', q', rfl, rfl, rfl, hd', hrest'⟩ := trodAll_cons hrest
  obtain ⟨v'', vs'', d'', ds''', p'', q'', rfl, rfl, rfl, hd'', hrest''⟩ := trodAll_cons hrest'
  obtain ⟨v3, vs3, d3, ds3, p3, q3, rfl, rfl, rfl, hd3, hrest3⟩ := trodAll_cons hrest''
  obtain ⟨rfl, rfl, rfl⟩ := trodAll_nil hrest3
  exact ⟨v, v', v'', v3, d, d', d'', d3, p, p', p'', p3, by cases args; simp_all, rfl, by simp, hd, hd', hd'', hd3⟩

set_option maxRecDepth 100000 in
theorem fnExactTagMay_lifted (os : Os) (started : os.Started) (H : Type) (enc : TypeId × Value → H) :
    ReturnsInHanded {} Tryz.checked os 8 .any (Rows.fnExactTagMaySpec.pre6 enc Tryz.prog Tryz.f8 Rows.fnExactTagMayRow.domain false) (Rows.fnExactTagMaySpec.post enc Tryz.prog Tryz.f8 false true false false) := by
  refine returnsInHanded_of_change (C := Tryz.checked) own started (by kernel_rfl) Tryz.func8
    (ChangeSpec.witness6 (enc := enc) (C := Tryz.checked) false ⟨#[], #[.agg #[.slice none 0 0], .int .i64 0, .agg #[.int .i64 0, .string ⟨#[]⟩], .agg #[.int .i64 0, .string ⟨#[]⟩]], []⟩ 8 (by kernel_rfl) (by kernel_rfl) (by kernel_rfl) (by kernel_rfl)) ?_
  intro W base args ds gs before hval0 hW hcnd _
  have hval : ∀ (j : Nat) t v, Tryz.f8.params[j]? = some t → args[j]? = some v → Value.okWide Tryz.prog W .any base t v := hval0
  have hW' := hW
  obtain ⟨p, q, hA0, hV, rfl, hfz, hnd⟩ := hW
  have hA : DataW.TrodAll enc Tryz.prog W 0 (fun _ => true) true Tryz.f8.params.toList args.toList ds p := hA0
  rw [Tryz.params8] at hA hval
  clear hA0 hval0
  obtain ⟨v0, v1', v2', v3', d0, d1, d2, d3, p0, p1, p2, p3, rfl, rfl, rfl, h0, h1, h2, h3⟩ := trodAll_four hA
  obtain ⟨rfl, rfl⟩ := trodVars_none hV
  obtain ⟨x, cs, rfl, v1, rfl, s1⟩ := open_struct Tryz.underlying24 (reads_LodPlan enc W) (hval 0 24 v0 rfl rfl) h0
  obtain ⟨ki, rfl, rfl, rfl, _⟩ := open_int Tryz.underlying3 (hval 1 3 v1' rfl rfl) h1
  obtain ⟨r, cs', rfl, rfl, b1⟩ := open_struct Tryz.underlying57 (reads_TagTag enc W) (hval 2 57 v2' rfl rfl) h2
  obtain ⟨b, cs2, rfl, rfl, b2⟩ := open_struct Tryz.underlying57 (reads_TagTag enc W) (hval 3 57 v3' rfl rfl) h3
  refine (L_FnExactTagMay x v1 ki r b W s1 b1 b2).mono fun e W' h => ?_
  obtain ⟨rfl, hb⟩ := h
  exact ⟨_, rfl, law_post (s := Rows.fnExactTagMaySpec) hW' hb rfl rfl rfl Tryz.underlying4 (by rw [Tryz.params8]; kernel_rfl)⟩
theorem fnExactTagMay_holds : Rows.FnExactTagMaySaid :=
  OpenClaim.holds_of_wide 8 Tryz.f8 rfl rfl rfl rfl rfl rfl rfl ⟨rfl, rfl, rfl, rfl, rfl⟩ rfl rfl rfl rfl rfl (by kernel_rfl) Tryz.func8 (by kernel_rfl)
    (of_decide_eq_true (by kernel_rfl)) (by unfold Func.isWrapper; first | (rw [if_pos (by decide +kernel)]; kernel_rfl) | (rw [if_neg (by decide +kernel)]; exact ⟨rfl, rfl⟩))
    (fun os started H enc _ => fnExactTagMay_lifted os started H enc)

end Go.Proofs.YtejfecmmcghpmaaGreat
