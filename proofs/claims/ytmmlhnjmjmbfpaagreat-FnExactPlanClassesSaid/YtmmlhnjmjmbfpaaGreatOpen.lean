

/-
  From the row's reading of an argument to the data that a walk wants: numbers, texts, slices of rows. No condition beside the row's own.
-/
import Derived.Test.YtmmlhnjmjmbfpaaGreatLaw
import Derived.Test.YtmmlhnjmjmbfpaaGreatRep
namespace Go.Proofs.YtmmlhnjmjmbfpaaGreat
set_option linter.unusedSimpArgs false
set_option linter.unusedVariables false
open Go.ChangeShapes Go.WideShapes Go.ChangeAt Go.RowKit Go.Joins Go.Deep

/-- what the row's reading finds at type t is data of R -/
def Reads {α H : Type} (enc : TypeId × Value → H) (W : World) (t : TypeId) (R : RowRel α) : Prop :=
  ∀ fuel cs x, DataW.trod enc Tryz.prog W 0 (fun _ => true) true fuel t cs = some x → ∃ d, R 0 W cs d

theorem reads_int {H : Type} (enc : TypeId × Value → H) (W : World) {t : TypeId} (ht : Tryz.prog.underlying t = some (.int .i64)) : Reads enc W t rInt := fun fuel cs x h => by
  obtain ⟨n, rfl, rfl, _⟩ := DataW.trod_int ht h
  exact ⟨n, rfl⟩
theorem reads_str {H : Type} (enc : TypeId × Value → H) (W : World) {t : TypeId} (ht : Tryz.prog.underlying t = some .string) : Reads enc W t rStr := fun fuel cs x h => by
  obtain ⟨s, rfl, rfl, hs⟩ := DataW.trod_string ht h
  exact ⟨s, rfl, hs⟩

/-- one cell that is a slice of rows -/
def rSl {α : Type} (k : Nat) (R : RowRel α) : RowRel (List α) := fun lo w cs xs => ∃ v, cs = [v] ∧ Sl k R lo w v xs

theorem spot_none {w : World} {a : Addr} {v : Value} (h : w.cell? a = some v) : a.spot = none := by
  cases hs : a.spot with
  | none => rfl
  | some x =>
    exfalso
    simp [World.cell?, hs] at h
    split at h <;> simp at h

theorem reads_slice {α H : Type} {enc : TypeId × Value → H} {W : World} {t e : TypeId} {k : Nat} {R : RowRel α} (ht : Tryz.prog.underlying t = some (.slice e)) (hk : Tryz.prog.cellsOf e = k) (h0 : 0 < k) (hR : Reads enc W e R) : Reads enc W t (rSl k R) := fun fuel cs x h => by
  rcases open_slice ht h with ⟨rfl, _⟩ | ⟨a, len, cap, m, n, D, Pl, rfl, _, hl, hm, hmm, _, hel⟩
  · exact ⟨[], _, rfl, none, 0, 0, rfl, rfl, Nat.le_refl _, Nat.zero_le _, fun h => absurd h (by omega)⟩
  · have hmc : m = cap := by simpa using hmm
    rw [hk] at hel
    have hev : ∀ i : Fin len, ∃ d : α, ∃ cs', cs'.length = k ∧ (∀ j v, cs'[j]? = some v → W.cell? ((a.add (i.1 * k)).add j) = some v) ∧ R 0 W cs' d := fun i => by
      obtain ⟨cs', h1, h2⟩ := hel i.1 (by have := i.2; omega)
      obtain ⟨d, hd⟩ := hR _ _ _ h2
      obtain ⟨_, hlen, hcell⟩ := World.cells?_some h1
      exact ⟨d, cs', hlen, fun j v hj => by
        rw [hcell j (by rw [← hlen]; exact (List.getElem?_eq_some_iff.1 hj).1)]; exact hj, hd⟩
    obtain ⟨f, hf⟩ := Classical.axiomOfChoice hev
    refine ⟨List.ofFn f, _, rfl, some a, len, cap, rfl, by simp, hl, hm, fun hpos => ?_⟩
    obtain ⟨cs0, c1, c2, c3⟩ := hf ⟨0, hpos⟩
    have hc0 := c2 0 (cs0[0]'(by omega)) (List.getElem?_eq_getElem (by omega))
    have hsp : a.spot = none := by
      refine spot_none (w := W) (v := cs0[0]'(by omega)) ?_
      rw [← hc0]; simp [Addr.add]
    obtain ⟨b, off, sp⟩ := a
    simp only at hsp
    subst hsp
    rw [Addr.add_mid, Addr.add_mid] at hc0
    have hlt := block_lt_of_cell hc0
    refine ⟨b, off, rfl, Nat.zero_le _, hlt, fun i hi => ?_⟩
    obtain ⟨cs1, d1, d2, d3⟩ := hf ⟨i, hi⟩
    refine ⟨f ⟨i, hi⟩, cs1, by rw [List.getElem?_ofFn]; simp [hi], d1, fun j v hj => ?_, d3⟩
    have := d2 j v hj
    rwa [Addr.add_mid, Addr.add_mid] at this

set_option maxRecDepth 100000 in
/-- an argument that is a struct -/
theorem open_struct {α H : Type} {enc : TypeId × Value → H} {W : World} {r : Reach} {b0 : Nat} {v : Value} {d : DataW H} {p : List MemPlace} {t : TypeId} {fs : Array Field} {R : RowRel α} (hu : Tryz.prog.underlying t = some (.struct fs)) (hR : Reads enc W t R)
    (hv : Value.okWide Tryz.prog W r b0 t v) (h : DataW.Trod enc Tryz.prog W 0 (fun _ => true) true t v d p) : ∃ x cs, v = .agg (List.toArray cs) ∧ R 0 W cs x := by
  obtain ⟨cs, rfl, hsz⟩ := okWide_struct hu hv
  obtain ⟨fuel, hf⟩ := h
  obtain ⟨x, hx⟩ := hR _ _ _ hf
  exact ⟨x, cs.toList, by simp, by simpa [Value.cells] using hx⟩
set_option maxRecDepth 100000 in
/-- .. and one that is a slice of rows -/
theorem open_rows {α H : Type} {enc : TypeId × Value → H} {W : World} {r : Reach} {b0 : Nat} {v : Value} {d : DataW H} {p : List MemPlace} {t e : TypeId} {k : Nat} {R : RowRel α} (hu : Tryz.prog.underlying t = some (.slice e)) (hk : Tryz.prog.cellsOf e = k) (h0 : 0 < k) (hR : Reads enc W e R)
    (hv : Value.okWide Tryz.prog W r b0 t v) (h : DataW.Trod enc Tryz.prog W 0 (fun _ => true) true t v d p) : ∃ xs, Sl k R 0 W v xs := by
  obtain ⟨a, len, cap, rfl⟩ := okWide_slice hu hv
  obtain ⟨fuel, hf⟩ := h
  obtain ⟨xs, u, hq, hs⟩ := reads_slice hu hk h0 hR _ _ _ hf
  simp [Value.cells] at hq
  subst hq
  exact ⟨xs, hs⟩

end Go.Proofs.YtmmlhnjmjmbfpaaGreat
