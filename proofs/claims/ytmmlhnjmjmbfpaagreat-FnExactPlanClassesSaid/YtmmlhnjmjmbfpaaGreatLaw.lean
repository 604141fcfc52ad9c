

/-
  What is alike in the rows of all laws: a call that returns true and leaves what was there as it was meets the row's post. Condition: none beside the row's own.
-/
import Derived.Test.YtmmlhnjmjmbfpaaGreatBase
import Derived.ProofKit
import Derived.Lib.SmallJoins
import Derived.Deep.Slices
namespace Go.Proofs.YtmmlhnjmjmbfpaaGreat
set_option linter.unusedSimpArgs false
set_option linter.unusedVariables false
open Go.ChangeShapes Go.WideShapes Go.ChangeAt Go.RowKit Go.Joins Go.Deep

theorem own : ownKnob Tryz.prog.godebug = none := by kernel_rfl
theorem laidOut : laidOutB Tryz.prog = true := by kernel_rfl

set_option maxRecDepth 100000 in
theorem trodAll_stays {H : Type} {enc : TypeId × Value → H} {W W' : World} (hb : Below W.heap.size W W') (ts : List TypeId) :
    ∀ (vs : List Value) (ds : List (DataW H)) (ps : List MemPlace), ts.all (fun t => Tryz.prog.readableRec t && decide (t < Tryz.prog.types.size)) = true →
      DataW.TrodAll enc Tryz.prog W 0 (fun _ => true) true ts vs ds ps → (∀ x ∈ ps, x.block < W.heap.size) →
      DataW.TrodAll enc Tryz.prog W' 0 (fun b => decide (b < W.heap.size)) true ts vs ds ps := by
  induction ts with
  | nil =>
    intro vs ds ps _ h _
    obtain ⟨rfl, rfl, rfl⟩ := trodAll_nil h
    exact trodAll_mk0
  | cons t ts ih =>
    intro vs ds ps hr h hlt
    obtain ⟨v, vs', d, ds', p, q, rfl, rfl, rfl, h1, h2⟩ := trodAll_cons h
    simp only [List.all_cons, Bool.and_eq_true, decide_eq_true_eq] at hr
    exact trodAll_cons_mk (Below.trod laidOut hr.1.1 hr.1.2 h1 hb (fun x hx => hlt x (List.mem_append_left _ hx))) (ih _ _ _ hr.2 h2 (fun x hx => hlt x (List.mem_append_right _ hx)))

theorem law_post {H : Type} {enc : TypeId × Value → H} {F : Func} {s : ChangeSpec} {W W' : World} {args : Array Value} {ds gs : List (DataW H)} {before : List MemPlace} {tb : TypeId}
    (hW : DataW.Whole enc Tryz.prog F.params.toList s.vars false W args.toList ds gs before) (hb : Below W.heap.size W W') (hvars : s.vars = [])
    (hfn : s.fn H (ds ++ gs) = { results := [.lit (.bool true)], args := ds }) (hres : F.resultTypes = #[tb]) (htb : Tryz.prog.underlying tb = some .bool)
    (hr : F.params.toList.all (fun t => Tryz.prog.readableRec t && decide (t < Tryz.prog.types.size)) = true) :
    s.post enc Tryz.prog F false true false false W args (.bool true) W' := by
  have hlt := hW.lt
  have hW' := hW
  obtain ⟨p, q, hA, hV, rfl, _, _⟩ := hW
  rw [hvars] at hV
  obtain ⟨rfl, rfl⟩ := trodVars_none hV
  refine ⟨ds, [], _, [], p, [], hW', ?_, ?_, ?_, hb.frame _, fun h => by cases h⟩
  · rw [hfn, hres]; exact trodAll_mk1 (shut_bool htb true)
  · rw [hfn]; exact trodAll_stays hb _ _ _ _ hr hA (fun x hx => hlt x (List.mem_append_left _ hx))
  · rw [hfn, hvars]; exact rfl

set_option maxRecDepth 100000 in
theorem open_knd {H : Type} {enc : TypeId × Value → H} {W : World} {r : Reach} {b0 : Nat} {v : Value} {d : DataW H} {p : List MemPlace} {t : TypeId} {f0 f1 : Field} (hu : Tryz.prog.underlying t = some (.struct #[f0, f1])) (ho : oneCellFields Tryz.prog #[f0, f1] = true) (hc : Tryz.prog.cellsOf t = 2) (h0 : Tryz.prog.underlying f0.type = some (.int .i64)) (h1 : Tryz.prog.underlying f1.type = some .string)
    (hv : Value.okWide Tryz.prog W r b0 t v) (h : DataW.Trod enc Tryz.prog W 0 (fun _ => true) true t v d p) : ∃ (k : Int) (n : ByteArray), v = .agg #[.int .i64 k, .string n] ∧ n.size ≤ maxLen := by
  obtain ⟨c0, c1, y0, y1, m, rfl, rfl, rfl, hy0, hy1⟩ := open_agg2 hu ho hc hv h
  obtain ⟨a, e0, rfl, wa⟩ := DataW.trod_int h0 hy0
  obtain ⟨s, e1, rfl, ws⟩ := DataW.trod_string h1 hy1
  simp at e0 e1; subst e0 e1
  exact ⟨a, s, rfl, ws⟩


set_option maxRecDepth 100000 in
theorem open_bytes {H : Type} {enc : TypeId × Value → H} {W : World} {r : Reach} {b0 : Nat} {v : Value} {d : DataW H} {p : List MemPlace} {t e : TypeId} (hu : Tryz.prog.underlying t = some (.slice e)) (he : Tryz.prog.underlying e = some (.int .u8)) (hc : Tryz.prog.cellsOf e = 1)
    (hv : Value.okWide Tryz.prog W r b0 t v) (h : DataW.Trod enc Tryz.prog W 0 (fun _ => true) true t v d p) : Bytes W v := by
  obtain ⟨a0, len, cap, rfl⟩ := okWide_slice hu hv
  obtain ⟨fuel, hf⟩ := h
  rcases open_ints hu he hc hf with ⟨hcs, hx⟩ | ⟨a, len', cap', zs, hcs, _, hl, hm, hz, hx, hcell, hwz⟩
  · simp [Value.cells] at hcs
    obtain ⟨rfl, rfl, rfl⟩ := hcs
    exact ⟨none, 0, 0, rfl, Nat.le_refl _, Nat.zero_le _, fun h => absurd h (by omega)⟩
  · simp [Value.cells] at hcs
    obtain ⟨rfl, rfl, rfl⟩ := hcs
    refine ⟨some a, len, cap, rfl, hl, hm, fun h0 => ?_⟩
    simp at hz
    have h00 := hcell 0 (by omega)
    have hsp : a.spot = none := by
      cases hs : a.spot with
      | none => rfl
      | some x => simp [Addr.add, World.cell?, hs] at h00; split at h00 <;> simp at h00
    have hlt := block_lt_of_cell h00
    obtain ⟨b, off, sp⟩ := a
    simp only at hsp
    subst hsp
    refine ⟨b, off, rfl, by simpa [Addr.add] using hlt, fun i hi => ?_⟩
    have hci := hcell i (by omega)
    have hw := hwz (zs.getD i 0) (by rw [List.getD_eq_getElem?_getD, List.getElem?_eq_getElem (by omega)]; simp)
    have hw' : 0 ≤ zs.getD i 0 ∧ zs.getD i 0 ≤ 255 := by simpa [Lit.wf, IntKind.min, IntKind.max, IntKind.signed, IntKind.bits] using hw
    refine ⟨(zs.getD i 0).toNat, by omega, ?_⟩
    rw [show (((zs.getD i 0).toNat : Nat) : Int) = zs.getD i 0 from by omega, ← hci]
    unfold Addr.add
    split
    · subst_vars; rfl
    · rfl

end Go.Proofs.YtmmlhnjmjmbfpaaGreat
