

/-
  From the row's reading to the laws' data. Printed by gen_rep.py, a program of the prover of this repo.
-/
import Derived.Test.YtchhappoidncjaaOpen
import Derived.Test.YtchhappoidncjaaDatV
namespace Go.Proofs.Ytchhappoidncjaa
set_option linter.unusedSimpArgs false
set_option linter.unusedVariables false
open Go.RowKit Go.ChangeShapes Go.WideShapes Go.ChangeAt Go.Joins Go.Deep

set_option maxRecDepth 100000 in
theorem reads_LodRef {H : Type} (enc : TypeId × Value → H) (W : World) : Reads enc W 126 rLodRef := fun fuel cs x h => by
  obtain ⟨xs, n, rfl, _, hlen, hxs, hf⟩ := DataW.trod_struct Try.underlying126 h
  have hlen' : cs.length = 2 := hlen.trans (by kernel_rfl)
  obtain ⟨c0, c1, rfl⟩ : ∃ c0 c1 : Value, cs = [c0, c1] := by
    match cs, hlen' with
    | [c0, c1], _ => exact ⟨_, _, rfl⟩
  obtain ⟨y0, e0⟩ : ∃ y, xs[0]? = some y := ⟨_, List.getElem?_eq_getElem (by rw [hxs]; decide)⟩
  have g0 : DataW.trod enc Try.prog W 0 (fun _ => true) true n 3 [c0] = some y0 := (hf 0 _ rfl).trans e0
  obtain ⟨d0, r0⟩ := reads_int enc W Try.underlying3 _ _ _ g0
  obtain ⟨y1, e1⟩ : ∃ y, xs[1]? = some y := ⟨_, List.getElem?_eq_getElem (by rw [hxs]; decide)⟩
  have g1 : DataW.trod enc Try.prog W 0 (fun _ => true) true n 9 [c1] = some y1 := (hf 1 _ rfl).trans e1
  obtain ⟨d1, r1⟩ := reads_str enc W Try.underlying9 _ _ _ g1
  cases r0
  obtain ⟨q1, b1⟩ := r1
  cases q1
  exact ⟨⟨d0, d1⟩, rfl, b1⟩

set_option maxRecDepth 100000 in
theorem reads_LnkMethod {H : Type} (enc : TypeId × Value → H) (W : World) : Reads enc W 128 rLnkMethod := fun fuel cs x h => by
  obtain ⟨xs, n, rfl, _, hlen, hxs, hf⟩ := DataW.trod_struct Try.underlying128 h
  have hlen' : cs.length = 3 := hlen.trans (by kernel_rfl)
  obtain ⟨c0, c1, c2, rfl⟩ : ∃ c0 c1 c2 : Value, cs = [c0, c1, c2] := by
    match cs, hlen' with
    | [c0, c1, c2], _ => exact ⟨_, _, _, rfl⟩
  obtain ⟨y0, e0⟩ : ∃ y, xs[0]? = some y := ⟨_, List.getElem?_eq_getElem (by rw [hxs]; decide)⟩
  have g0 : DataW.trod enc Try.prog W 0 (fun _ => true) true n 126 [c0, c1] = some y0 := (hf 0 _ rfl).trans e0
  obtain ⟨d0, r0⟩ := reads_LodRef enc W _ _ _ g0
  obtain ⟨y1, e1⟩ : ∃ y, xs[1]? = some y := ⟨_, List.getElem?_eq_getElem (by rw [hxs]; decide)⟩
  have g1 : DataW.trod enc Try.prog W 0 (fun _ => true) true n 3 [c2] = some y1 := (hf 1 _ rfl).trans e1
  obtain ⟨d1, r1⟩ := reads_int enc W Try.underlying3 _ _ _ g1
  obtain ⟨q0, b1⟩ := r0
  cases q0
  cases r1
  exact ⟨⟨d0, d1⟩, rfl, b1⟩

set_option maxRecDepth 100000 in
theorem reads_VmVal {H : Type} (enc : TypeId × Value → H) (W : World) : Reads enc W 68 rVmVal := fun fuel cs x h => by
  obtain ⟨xs, n, rfl, _, hlen, hxs, hf⟩ := DataW.trod_struct Try.underlying68 h
  have hlen' : cs.length = 2 := hlen.trans (by kernel_rfl)
  obtain ⟨c0, c1, rfl⟩ : ∃ c0 c1 : Value, cs = [c0, c1] := by
    match cs, hlen' with
    | [c0, c1], _ => exact ⟨_, _, rfl⟩
  obtain ⟨y0, e0⟩ : ∃ y, xs[0]? = some y := ⟨_, List.getElem?_eq_getElem (by rw [hxs]; decide)⟩
  have g0 : DataW.trod enc Try.prog W 0 (fun _ => true) true n 3 [c0] = some y0 := (hf 0 _ rfl).trans e0
  obtain ⟨d0, r0⟩ := reads_int enc W Try.underlying3 _ _ _ g0
  obtain ⟨y1, e1⟩ : ∃ y, xs[1]? = some y := ⟨_, List.getElem?_eq_getElem (by rw [hxs]; decide)⟩
  have g1 : DataW.trod enc Try.prog W 0 (fun _ => true) true n 3 [c1] = some y1 := (hf 1 _ rfl).trans e1
  obtain ⟨d1, r1⟩ := reads_int enc W Try.underlying3 _ _ _ g1
  cases r0
  cases r1
  exact ⟨⟨d0, d1⟩, rfl⟩

set_option maxRecDepth 100000 in
theorem reads_VmFrame {H : Type} (enc : TypeId × Value → H) (W : World) : Reads enc W 131 rVmFrame := fun fuel cs x h => by
  obtain ⟨xs, n, rfl, _, hlen, hxs, hf⟩ := DataW.trod_struct Try.underlying131 h
  have hlen' : cs.length = 6 := hlen.trans (by kernel_rfl)
  obtain ⟨c0, c1, c2, c3, c4, c5, rfl⟩ : ∃ c0 c1 c2 c3 c4 c5 : Value, cs = [c0, c1, c2, c3, c4, c5] := by
    match cs, hlen' with
    | [c0, c1, c2, c3, c4, c5], _ => exact ⟨_, _, _, _, _, _, rfl⟩
  obtain ⟨y0, e0⟩ : ∃ y, xs[0]? = some y := ⟨_, List.getElem?_eq_getElem (by rw [hxs]; decide)⟩
  have g0 : DataW.trod enc Try.prog W 0 (fun _ => true) true n 128 [c0, c1, c2] = some y0 := (hf 0 _ rfl).trans e0
  obtain ⟨d0, r0⟩ := reads_LnkMethod enc W _ _ _ g0
  obtain ⟨y1, e1⟩ : ∃ y, xs[1]? = some y := ⟨_, List.getElem?_eq_getElem (by rw [hxs]; decide)⟩
  have g1 : DataW.trod enc Try.prog W 0 (fun _ => true) true n 3 [c3] = some y1 := (hf 1 _ rfl).trans e1
  obtain ⟨d1, r1⟩ := reads_int enc W Try.underlying3 _ _ _ g1
  obtain ⟨y2, e2⟩ : ∃ y, xs[2]? = some y := ⟨_, List.getElem?_eq_getElem (by rw [hxs]; decide)⟩
  have g2 : DataW.trod enc Try.prog W 0 (fun _ => true) true n 129 [c4] = some y2 := (hf 2 _ rfl).trans e2
  obtain ⟨d2, r2⟩ := reads_slice (k := 2) Try.underlying129 (by kernel_rfl) (by decide) (reads_VmVal enc W) _ _ _ g2
  obtain ⟨y3, e3⟩ : ∃ y, xs[3]? = some y := ⟨_, List.getElem?_eq_getElem (by rw [hxs]; decide)⟩
  have g3 : DataW.trod enc Try.prog W 0 (fun _ => true) true n 129 [c5] = some y3 := (hf 3 _ rfl).trans e3
  obtain ⟨d3, r3⟩ := reads_slice (k := 2) Try.underlying129 (by kernel_rfl) (by decide) (reads_VmVal enc W) _ _ _ g3
  obtain ⟨q0, b1⟩ := r0
  cases q0
  cases r1
  obtain ⟨v1, q2, s1⟩ := r2
  cases q2
  obtain ⟨v2, q3, s2⟩ := r3
  cases q3
  exact ⟨⟨d0, d1, d2, d3⟩, _, _, rfl, s1, s2, b1⟩

set_option maxRecDepth 100000 in
theorem reads_VmObj {H : Type} (enc : TypeId × Value → H) (W : World) : Reads enc W 134 rVmObj := fun fuel cs x h => by
  obtain ⟨xs, n, rfl, _, hlen, hxs, hf⟩ := DataW.trod_struct Try.underlying134 h
  have hlen' : cs.length = 3 := hlen.trans (by kernel_rfl)
  obtain ⟨c0, c1, c2, rfl⟩ : ∃ c0 c1 c2 : Value, cs = [c0, c1, c2] := by
    match cs, hlen' with
    | [c0, c1, c2], _ => exact ⟨_, _, _, rfl⟩
  obtain ⟨y0, e0⟩ : ∃ y, xs[0]? = some y := ⟨_, List.getElem?_eq_getElem (by rw [hxs]; decide)⟩
  have g0 : DataW.trod enc Try.prog W 0 (fun _ => true) true n 126 [c0, c1] = some y0 := (hf 0 _ rfl).trans e0
  obtain ⟨d0, r0⟩ := reads_LodRef enc W _ _ _ g0
  obtain ⟨y1, e1⟩ : ∃ y, xs[1]? = some y := ⟨_, List.getElem?_eq_getElem (by rw [hxs]; decide)⟩
  have g1 : DataW.trod enc Try.prog W 0 (fun _ => true) true n 129 [c2] = some y1 := (hf 1 _ rfl).trans e1
  obtain ⟨d1, r1⟩ := reads_slice (k := 2) Try.underlying129 (by kernel_rfl) (by decide) (reads_VmVal enc W) _ _ _ g1
  obtain ⟨q0, b1⟩ := r0
  cases q0
  obtain ⟨v1, q1, s1⟩ := r1
  cases q1
  exact ⟨⟨d0, d1⟩, _, rfl, s1, b1⟩

set_option maxRecDepth 100000 in
theorem reads_VmState {H : Type} (enc : TypeId × Value → H) (W : World) : Reads enc W 70 rVmState := fun fuel cs x h => by
  obtain ⟨xs, n, rfl, _, hlen, hxs, hf⟩ := DataW.trod_struct Try.underlying70 h
  have hlen' : cs.length = 6 := hlen.trans (by kernel_rfl)
  obtain ⟨c0, c1, c2, c3, c4, c5, rfl⟩ : ∃ c0 c1 c2 c3 c4 c5 : Value, cs = [c0, c1, c2, c3, c4, c5] := by
    match cs, hlen' with
    | [c0, c1, c2, c3, c4, c5], _ => exact ⟨_, _, _, _, _, _, rfl⟩
  obtain ⟨y0, e0⟩ : ∃ y, xs[0]? = some y := ⟨_, List.getElem?_eq_getElem (by rw [hxs]; decide)⟩
  have g0 : DataW.trod enc Try.prog W 0 (fun _ => true) true n 3 [c0] = some y0 := (hf 0 _ rfl).trans e0
  obtain ⟨d0, r0⟩ := reads_int enc W Try.underlying3 _ _ _ g0
  obtain ⟨y1, e1⟩ : ∃ y, xs[1]? = some y := ⟨_, List.getElem?_eq_getElem (by rw [hxs]; decide)⟩
  have g1 : DataW.trod enc Try.prog W 0 (fun _ => true) true n 66 [c1] = some y1 := (hf 1 _ rfl).trans e1
  obtain ⟨d1, r1⟩ := reads_slice (k := 6) Try.underlying66 (by kernel_rfl) (by decide) (reads_VmFrame enc W) _ _ _ g1
  obtain ⟨y2, e2⟩ : ∃ y, xs[2]? = some y := ⟨_, List.getElem?_eq_getElem (by rw [hxs]; decide)⟩
  have g2 : DataW.trod enc Try.prog W 0 (fun _ => true) true n 67 [c2] = some y2 := (hf 2 _ rfl).trans e2
  obtain ⟨d2, r2⟩ := reads_slice (k := 3) Try.underlying67 (by kernel_rfl) (by decide) (reads_VmObj enc W) _ _ _ g2
  obtain ⟨y3, e3⟩ : ∃ y, xs[3]? = some y := ⟨_, List.getElem?_eq_getElem (by rw [hxs]; decide)⟩
  have g3 : DataW.trod enc Try.prog W 0 (fun _ => true) true n 25 [c3] = some y3 := (hf 3 _ rfl).trans e3
  obtain ⟨d3, r3⟩ := reads_slice (k := 1) Try.underlying25 (by kernel_rfl) (by decide) (reads_int enc W Try.underlying3) _ _ _ g3
  obtain ⟨y4, e4⟩ : ∃ y, xs[4]? = some y := ⟨_, List.getElem?_eq_getElem (by rw [hxs]; decide)⟩
  have g4 : DataW.trod enc Try.prog W 0 (fun _ => true) true n 68 [c4, c5] = some y4 := (hf 4 _ rfl).trans e4
  obtain ⟨d4, r4⟩ := reads_VmVal enc W _ _ _ g4
  cases r0
  obtain ⟨v1, q1, s1⟩ := r1
  cases q1
  obtain ⟨v2, q2, s2⟩ := r2
  cases q2
  obtain ⟨v3, q3, s3⟩ := r3
  cases q3
  cases r4
  exact ⟨⟨d0, d1, d2, d3, d4⟩, _, _, _, rfl, s1, s2, s3⟩

end Go.Proofs.Ytchhappoidncjaa
