
/-
  What is alike in the rows of all laws: a call that returns true and leaves what was there as it was meets the row's post. Condition: none beside the row's own.
-/
import Derived.Test.YtlnadoidcmhffaaBase
import Derived.ProofKit
namespace Go.Proofs.Ytlnadoidcmhffaa
set_option linter.unusedSimpArgs false
set_option linter.unusedVariables false
open Go.ChangeShapes Go.WideShapes Go.ChangeAt Go.RowKit

theorem own : ownKnob Try.prog.godebug = none := by kernel_rfl
theorem laidOut : laidOutB Try.prog = true := by kernel_rfl

set_option maxRecDepth 100000 in
theorem trodAll_stays {H : Type} {enc : TypeId × Value → H} {W W' : World} (hb : Below W.heap.size W W') (ts : List TypeId) :
    ∀ (vs : List Value) (ds : List (DataW H)) (ps : List MemPlace), ts.all (fun t => Try.prog.readableRec t && decide (t < Try.prog.types.size)) = true →
      DataW.TrodAll enc Try.prog W 0 (fun _ => true) true ts vs ds ps → (∀ x ∈ ps, x.block < W.heap.size) →
      DataW.TrodAll enc Try.prog W' 0 (fun b => decide (b < W.heap.size)) true ts vs ds ps := by
  induction ts with
  | nil =>
    intro vs ds ps _ h _
    obtain ⟨rfl, rfl, rfl⟩ := trodAll_nil h
    exact trodAll_mk0
  | cons t ts ih =>
    intro vs ds ps hr h hlt
    obtain ⟨v, vs', d, ds', p, q, rfl, rfl, rfl, h1, h2⟩ := trodAll_cons h
    simp only [List.all_cons, Bool.and_eq_true, decide_eq_true_eq] at hr
    exact trodAll_cons_mk (Below.trod laidOut hr.1.1 hr.1.2 h1 hb (fun x hx => hlt x (List.mem_append_left _ hx))) (ih _ _ _ hr.2 h2 (fun x hx => hlt x (List.mem_append_right _ hx)))

theorem law_post {H : Type} {enc : TypeId × Value → H} {F : Func} {s : ChangeSpec} {W W' : World} {args : Array Value} {ds gs : List (DataW H)} {before : List MemPlace} {tb : TypeId}
    (hW : DataW.Whole enc Try.prog F.params.toList s.vars false W args.toList ds gs before) (hb : Below W.heap.size W W') (hvars : s.vars = [])
    (hfn : s.fn H (ds ++ gs) = { results := [.lit (.bool true)], args := ds }) (hres : F.resultTypes = #[tb]) (htb : Try.prog.underlying tb = some .bool)
    (hr : F.params.toList.all (fun t => Try.prog.readableRec t && decide (t < Try.prog.types.size)) = true) :
    s.post enc Try.prog F false true false false W args (.bool true) W' := by
  have hlt := hW.lt
  have hW' := hW
  obtain ⟨p, q, hA, hV, rfl, _, _⟩ := hW
  rw [hvars] at hV
  obtain ⟨rfl, rfl⟩ := trodVars_none hV
  refine ⟨ds, [], _, [], p, [], hW', ?_, ?_, ?_, hb.frame _, fun h => by cases h⟩
  · rw [hfn, hres]; exact trodAll_mk1 (shut_bool htb true)
  · rw [hfn]; exact trodAll_stays hb _ _ _ _ hr hA (fun x hx => hlt x (List.mem_append_left _ hx))
  · rw [hfn, hvars]; exact rfl

end Go.Proofs.Ytlnadoidcmhffaa
