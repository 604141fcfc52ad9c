

/-
  The statement FnExactLnkLaid, proved. No condition beside the row's own.
-/
import Derived.Test.YtejfecmmcghpmaaGreatOpenP
import Derived.Test.YtejfecmmcghpmaaGreatLawLaid
namespace Go.Proofs.YtejfecmmcghpmaaGreat
set_option linter.unusedSimpArgs false
set_option linter.unusedVariables false
open Go.ChangeShapes Go.WideShapes Go.ChangeAt Go.RowKit Go.Joins
open Go.ChangeMaps (open_string shut_string)

def rLodRefW : RowRel DLodRef := fun lo w cs x => rLodRef lo w cs x ∧ (Lit.int .i64 x.fKeeper).wf = true
set_option maxRecDepth 100000 in
set_option maxHeartbeats 2000000 in
theorem reads_LodRef {H : Type} (enc : TypeId × Value → H) (W : World) : Reads enc W 26 rLodRefW := fun fuel cs x h => by
  obtain ⟨xs, n, rfl, _, hlen, hxs, hf⟩ := DataW.trod_struct Tryz.underlying26 h
  have hlen' : cs.length = 2 := hlen.trans (by kernel_rfl)
  obtain ⟨c0, c1, rfl⟩ : ∃ c0 c1 : Value, cs = [c0, c1] := by
    match cs, hlen' with
    | [c0, c1], _ => exact ⟨_, _, rfl⟩
  obtain ⟨y0, e0⟩ : ∃ y, xs[0]? = some y := ⟨_, List.getElem?_eq_getElem (by rw [hxs]; decide)⟩
  have g0 : DataW.trod enc Tryz.prog W 0 (fun _ => true) true n 3 [c0] = some y0 := (hf 0 _ rfl).trans e0
  obtain ⟨d0, r0, _, hwf⟩ := DataW.trod_int Tryz.underlying3 g0
  obtain ⟨y1, e1⟩ : ∃ y, xs[1]? = some y := ⟨_, List.getElem?_eq_getElem (by rw [hxs]; decide)⟩
  have g1 : DataW.trod enc Tryz.prog W 0 (fun _ => true) true n 9 [c1] = some y1 := (hf 1 _ rfl).trans e1
  obtain ⟨d1, r1⟩ := reads_str enc W Tryz.underlying9 _ _ _ g1
  cases r0
  obtain ⟨q1, b1⟩ := r1
  cases q1
  exact ⟨⟨d0, d1⟩, ⟨rfl, b1⟩, hwf⟩

set_option maxRecDepth 100000 in
theorem fnExactLnkLaid_lifted (os : Os) (started : os.Started) (H : Type) (enc : TypeId × Value → H) :
    ReturnsInHanded {} Tryz.checked os 9 .any (Rows.fnExactLnkLaidSpec.pre6 enc Tryz.prog Tryz.f9 Rows.fnExactLnkLaidRow.domain false) (Rows.fnExactLnkLaidSpec.post enc Tryz.prog Tryz.f9 false true false false) := by
  refine returnsInHanded_of_change (C := Tryz.checked) own started (by kernel_rfl) Tryz.func9
    (ChangeSpec.witness6 (enc := enc) (C := Tryz.checked) false ⟨#[], #[.agg #[.slice none 0 0], .agg #[.int .i64 0, .string ⟨#[]⟩]], []⟩ 8 (by kernel_rfl) (by kernel_rfl) (by kernel_rfl) (by kernel_rfl)) ?_
  intro W base args ds gs before hval0 hW hcnd _
  have hval : ∀ (j : Nat) t v, Tryz.f9.params[j]? = some t → args[j]? = some v → Value.okWide Tryz.prog W .any base t v := hval0
  have hW' := hW
  obtain ⟨p, q, hA0, hV, rfl, hfz, hnd⟩ := hW
  have hA : DataW.TrodAll enc Tryz.prog W 0 (fun _ => true) true Tryz.f9.params.toList args.toList ds p := hA0
  rw [Tryz.params9] at hA hval
  clear hA0 hval0
  obtain ⟨v0, v1', d0, d1, p0, p1, rfl, rfl, rfl, h0, h1⟩ := trodAll_two hA
  obtain ⟨rfl, rfl⟩ := trodVars_none hV
  obtain ⟨x, cs, rfl, v1, rfl, s1⟩ := open_struct Tryz.underlying24 (reads_LodPlan enc W) (hval 0 24 v0 rfl rfl) h0
  obtain ⟨r, cs', rfl, ⟨rfl, b1⟩, hk⟩ := open_struct Tryz.underlying26 (reads_LodRef enc W) (hval 1 26 v1' rfl rfl) h1
  refine (L_FnExactLnkLaid x v1 r W s1 b1 hk).mono fun e W' h => ?_
  obtain ⟨rfl, hb⟩ := h
  exact ⟨_, rfl, law_post (s := Rows.fnExactLnkLaidSpec) hW' hb rfl rfl rfl Tryz.underlying4 (by rw [Tryz.params9]; kernel_rfl)⟩
theorem fnExactLnkLaid_holds : Rows.FnExactLnkLaidSaid :=
  OpenClaim.holds_of_wide 9 Tryz.f9 rfl rfl rfl rfl rfl rfl rfl ⟨rfl, rfl, rfl, rfl, rfl⟩ rfl rfl rfl rfl rfl (by kernel_rfl) Tryz.func9 (by kernel_rfl)
    (of_decide_eq_true (by kernel_rfl)) (by unfold Func.isWrapper; first | (rw [if_pos (by decide +kernel)]; kernel_rfl) | (rw [if_neg (by decide +kernel)]; exact ⟨rfl, rfl⟩))
    (fun os started H enc _ => fnExactLnkLaid_lifted os started H enc)

end Go.Proofs.YtejfecmmcghpmaaGreat
