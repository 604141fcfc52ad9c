
/-
  The statement FnExactInsOk, proved. No condition beside the row's own.
-/
import Derived.Test.YtchhappoidncjaaLaw
import Derived.Test.YtchhappoidncjaaInsL
namespace Go.Proofs.Ytchhappoidncjaa
set_option linter.unusedSimpArgs false
set_option linter.unusedVariables false
open Go.ChangeShapes Go.WideShapes Go.ChangeAt Go.RowKit Go.Joins Go.Deep
open Go.ChangeMaps (open_string shut_string)

set_option maxRecDepth 100000 in
theorem open_ins {H : Type} {enc : TypeId × Value → H} {W : World} {r : Reach} {b0 : Nat} {v : Value} {d : DataW H} {p : List MemPlace} {t : TypeId} {f0 f1 f2 f3 : Field} (hu : Try.prog.underlying t = some (.struct #[f0, f1, f2, f3])) (ho : oneCellFields Try.prog #[f0, f1, f2, f3] = true) (hc : Try.prog.cellsOf t = 4) (h0 : Try.prog.underlying f0.type = some (.int .i64)) (h1 : Try.prog.underlying f1.type = some (.int .i64)) (h2 : Try.prog.underlying f2.type = some .string) (h3 : Try.prog.underlying f3.type = some .string)
    (hv : Value.okWide Try.prog W r b0 t v) (h : DataW.Trod enc Try.prog W 0 (fun _ => true) true t v d p) : ∃ (op a : Int) (n m : ByteArray), v = .agg #[.int .i64 op, .int .i64 a, .string n, .string m] ∧ n.size ≤ maxLen ∧ m.size ≤ maxLen := by
  obtain ⟨c0, c1, c2, c3, y0, y1, y2, y3, m, rfl, rfl, rfl, hy0, hy1, hy2, hy3⟩ := open_agg4 hu ho hc hv h
  obtain ⟨a0, e0, rfl, wa⟩ := DataW.trod_int h0 hy0
  obtain ⟨a1, e1, rfl, wb⟩ := DataW.trod_int h1 hy1
  obtain ⟨s2, e2, rfl, ws2⟩ := DataW.trod_string h2 hy2
  obtain ⟨s3, e3, rfl, ws3⟩ := DataW.trod_string h3 hy3
  simp at e0 e1 e2 e3; subst e0 e1 e2 e3
  exact ⟨a0, a1, s2, s3, rfl, ws2, ws3⟩

set_option maxRecDepth 100000 in
theorem fnExactInsOk_lifted (os : Os) (started : os.Started) (H : Type) (enc : TypeId × Value → H) :
    ReturnsInHanded {} Try.checked os 9 .any (Rows.fnExactInsOkSpec.pre6 enc Try.prog Try.f9 Rows.fnExactInsOkRow.domain false) (Rows.fnExactInsOkSpec.post enc Try.prog Try.f9 false true false false) := by
  refine returnsInHanded_of_change (C := Try.checked) own started (by kernel_rfl) Try.func9
    (ChangeSpec.witness6 (enc := enc) (C := Try.checked) false ⟨#[], #[.agg #[.int .i64 0, .int .i64 0, .string ⟨#[]⟩, .string ⟨#[]⟩]], []⟩ 8 (by kernel_rfl) (by kernel_rfl) (by kernel_rfl) (by kernel_rfl)) ?_
  intro W base args ds gs before hval0 hW hcnd _
  have hval : ∀ (j : Nat) t v, Try.f9.params[j]? = some t → args[j]? = some v → Value.okWide Try.prog W .any base t v := hval0
  have hW' := hW
  obtain ⟨p, q, hA0, hV, rfl, hfz, hnd⟩ := hW
  have hA : DataW.TrodAll enc Try.prog W 0 (fun _ => true) true Try.f9.params.toList args.toList ds p := hA0
  rw [Try.params9] at hA hval
  clear hA0 hval0
  obtain ⟨v0, d0, rfl, rfl, h0⟩ := trodAll_one hA
  obtain ⟨rfl, rfl⟩ := trodVars_none hV
  obtain ⟨op, a, n, m, rfl, hn, hm⟩ := open_ins Try.underlying55 (by kernel_rfl) (by kernel_rfl) Try.underlying3 Try.underlying3 Try.underlying9 Try.underlying9 (hval 0 55 v0 rfl rfl) h0
  refine (L_InsOk op a n m W hn hm).mono fun e W' h => ?_
  obtain ⟨rfl, hb⟩ := h
  exact ⟨_, rfl, law_post (s := Rows.fnExactInsOkSpec) hW' hb rfl rfl rfl Try.underlying4 (by rw [Try.params9]; kernel_rfl)⟩
theorem fnExactInsOk_holds : Rows.FnExactInsOkSaid :=
  OpenClaim.holds_of_wide 9 Try.f9 rfl rfl rfl rfl rfl rfl rfl ⟨rfl, rfl, rfl, rfl, rfl⟩ rfl rfl rfl rfl rfl (by kernel_rfl) Try.func9 (by kernel_rfl)
    (of_decide_eq_true (by kernel_rfl)) (by unfold Func.isWrapper; first | (rw [if_pos (by decide +kernel)]; kernel_rfl) | (rw [if_neg (by decide +kernel)]; exact ⟨rfl, rfl⟩))
    (fun os started H enc _ => fnExactInsOk_lifted os started H enc)

end Go.Proofs.Ytchhappoidncjaa
