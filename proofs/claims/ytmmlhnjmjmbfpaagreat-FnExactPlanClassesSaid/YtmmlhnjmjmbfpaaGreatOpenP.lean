

/-
  From the row's reading to the laws' data. Printed by gen_rep.py, a program of the prover of this repo.
-/
import Derived.Test.YtmmlhnjmjmbfpaaGreatOpen
import Derived.Test.YtmmlhnjmjmbfpaaGreatDatC
namespace Go.Proofs.YtmmlhnjmjmbfpaaGreat
set_option linter.unusedSimpArgs false
set_option linter.unusedVariables false
open Go.RowKit Go.ChangeShapes Go.WideShapes Go.ChangeAt Go.Joins Go.Deep

set_option maxRecDepth 100000 in
theorem reads_KndKind {H : Type} (enc : TypeId × Value → H) (W : World) : Reads enc W 153 rKndKind := fun fuel cs x h => by
  obtain ⟨xs, n, rfl, _, hlen, hxs, hf⟩ := DataW.trod_struct Tryz.underlying153 h
  have hlen' : cs.length = 2 := hlen.trans (by kernel_rfl)
  obtain ⟨c0, c1, rfl⟩ : ∃ c0 c1 : Value, cs = [c0, c1] := by
    match cs, hlen' with
    | [c0, c1], _ => exact ⟨_, _, rfl⟩
  obtain ⟨y0, e0⟩ : ∃ y, xs[0]? = some y := ⟨_, List.getElem?_eq_getElem (by rw [hxs]; decide)⟩
  have g0 : DataW.trod enc Tryz.prog W 0 (fun _ => true) true n 3 [c0] = some y0 := (hf 0 _ rfl).trans e0
  obtain ⟨d0, r0⟩ := reads_int enc W Tryz.underlying3 _ _ _ g0
  obtain ⟨y1, e1⟩ : ∃ y, xs[1]? = some y := ⟨_, List.getElem?_eq_getElem (by rw [hxs]; decide)⟩
  have g1 : DataW.trod enc Tryz.prog W 0 (fun _ => true) true n 9 [c1] = some y1 := (hf 1 _ rfl).trans e1
  obtain ⟨d1, r1⟩ := reads_str enc W Tryz.underlying9 _ _ _ g1
  cases r0
  obtain ⟨q1, b1⟩ := r1
  cases q1
  exact ⟨⟨d0, d1⟩, rfl, b1⟩

set_option maxRecDepth 100000 in
theorem reads_ClsField {H : Type} (enc : TypeId × Value → H) (W : World) : Reads enc W 155 rClsField := fun fuel cs x h => by
  obtain ⟨xs, n, rfl, _, hlen, hxs, hf⟩ := DataW.trod_struct Tryz.underlying155 h
  have hlen' : cs.length = 3 := hlen.trans (by kernel_rfl)
  obtain ⟨c0, c1, c2, rfl⟩ : ∃ c0 c1 c2 : Value, cs = [c0, c1, c2] := by
    match cs, hlen' with
    | [c0, c1, c2], _ => exact ⟨_, _, _, rfl⟩
  obtain ⟨y0, e0⟩ : ∃ y, xs[0]? = some y := ⟨_, List.getElem?_eq_getElem (by rw [hxs]; decide)⟩
  have g0 : DataW.trod enc Tryz.prog W 0 (fun _ => true) true n 9 [c0] = some y0 := (hf 0 _ rfl).trans e0
  obtain ⟨d0, r0⟩ := reads_str enc W Tryz.underlying9 _ _ _ g0
  obtain ⟨y1, e1⟩ : ∃ y, xs[1]? = some y := ⟨_, List.getElem?_eq_getElem (by rw [hxs]; decide)⟩
  have g1 : DataW.trod enc Tryz.prog W 0 (fun _ => true) true n 153 [c1, c2] = some y1 := (hf 1 _ rfl).trans e1
  obtain ⟨d1, r1⟩ := reads_KndKind enc W _ _ _ g1
  obtain ⟨q0, b1⟩ := r0
  cases q0
  obtain ⟨q1, b2⟩ := r1
  cases q1
  exact ⟨⟨d0, d1⟩, rfl, b1, b2⟩

set_option maxRecDepth 100000 in
theorem reads_ClsIns {H : Type} (enc : TypeId × Value → H) (W : World) : Reads enc W 190 rClsIns := fun fuel cs x h => by
  obtain ⟨xs, n, rfl, _, hlen, hxs, hf⟩ := DataW.trod_struct Tryz.underlying190 h
  have hlen' : cs.length = 4 := hlen.trans (by kernel_rfl)
  obtain ⟨c0, c1, c2, c3, rfl⟩ : ∃ c0 c1 c2 c3 : Value, cs = [c0, c1, c2, c3] := by
    match cs, hlen' with
    | [c0, c1, c2, c3], _ => exact ⟨_, _, _, _, rfl⟩
  obtain ⟨y0, e0⟩ : ∃ y, xs[0]? = some y := ⟨_, List.getElem?_eq_getElem (by rw [hxs]; decide)⟩
  have g0 : DataW.trod enc Tryz.prog W 0 (fun _ => true) true n 3 [c0] = some y0 := (hf 0 _ rfl).trans e0
  obtain ⟨d0, r0⟩ := reads_int enc W Tryz.underlying3 _ _ _ g0
  obtain ⟨y1, e1⟩ : ∃ y, xs[1]? = some y := ⟨_, List.getElem?_eq_getElem (by rw [hxs]; decide)⟩
  have g1 : DataW.trod enc Tryz.prog W 0 (fun _ => true) true n 3 [c1] = some y1 := (hf 1 _ rfl).trans e1
  obtain ⟨d1, r1⟩ := reads_int enc W Tryz.underlying3 _ _ _ g1
  obtain ⟨y2, e2⟩ : ∃ y, xs[2]? = some y := ⟨_, List.getElem?_eq_getElem (by rw [hxs]; decide)⟩
  have g2 : DataW.trod enc Tryz.prog W 0 (fun _ => true) true n 9 [c2] = some y2 := (hf 2 _ rfl).trans e2
  obtain ⟨d2, r2⟩ := reads_str enc W Tryz.underlying9 _ _ _ g2
  obtain ⟨y3, e3⟩ : ∃ y, xs[3]? = some y := ⟨_, List.getElem?_eq_getElem (by rw [hxs]; decide)⟩
  have g3 : DataW.trod enc Tryz.prog W 0 (fun _ => true) true n 9 [c3] = some y3 := (hf 3 _ rfl).trans e3
  obtain ⟨d3, r3⟩ := reads_str enc W Tryz.underlying9 _ _ _ g3
  cases r0
  cases r1
  obtain ⟨q2, b1⟩ := r2
  cases q2
  obtain ⟨q3, b2⟩ := r3
  cases q3
  exact ⟨⟨d0, d1, d2, d3⟩, rfl, b1, b2⟩

set_option maxRecDepth 100000 in
theorem reads_TagTag {H : Type} (enc : TypeId × Value → H) (W : World) : Reads enc W 213 rTagTag := fun fuel cs x h => by
  obtain ⟨xs, n, rfl, _, hlen, hxs, hf⟩ := DataW.trod_struct Tryz.underlying213 h
  have hlen' : cs.length = 2 := hlen.trans (by kernel_rfl)
  obtain ⟨c0, c1, rfl⟩ : ∃ c0 c1 : Value, cs = [c0, c1] := by
    match cs, hlen' with
    | [c0, c1], _ => exact ⟨_, _, rfl⟩
  obtain ⟨y0, e0⟩ : ∃ y, xs[0]? = some y := ⟨_, List.getElem?_eq_getElem (by rw [hxs]; decide)⟩
  have g0 : DataW.trod enc Tryz.prog W 0 (fun _ => true) true n 3 [c0] = some y0 := (hf 0 _ rfl).trans e0
  obtain ⟨d0, r0⟩ := reads_int enc W Tryz.underlying3 _ _ _ g0
  obtain ⟨y1, e1⟩ : ∃ y, xs[1]? = some y := ⟨_, List.getElem?_eq_getElem (by rw [hxs]; decide)⟩
  have g1 : DataW.trod enc Tryz.prog W 0 (fun _ => true) true n 9 [c1] = some y1 := (hf 1 _ rfl).trans e1
  obtain ⟨d1, r1⟩ := reads_str enc W Tryz.underlying9 _ _ _ g1
  cases r0
  obtain ⟨q1, b1⟩ := r1
  cases q1
  exact ⟨⟨d0, d1⟩, rfl, b1⟩

set_option maxRecDepth 100000 in
theorem reads_ClsMap {H : Type} (enc : TypeId × Value → H) (W : World) : Reads enc W 194 rClsMap := fun fuel cs x h => by
  obtain ⟨xs, n, rfl, _, hlen, hxs, hf⟩ := DataW.trod_struct Tryz.underlying194 h
  have hlen' : cs.length = 3 := hlen.trans (by kernel_rfl)
  obtain ⟨c0, c1, c2, rfl⟩ : ∃ c0 c1 c2 : Value, cs = [c0, c1, c2] := by
    match cs, hlen' with
    | [c0, c1, c2], _ => exact ⟨_, _, _, rfl⟩
  obtain ⟨y0, e0⟩ : ∃ y, xs[0]? = some y := ⟨_, List.getElem?_eq_getElem (by rw [hxs]; decide)⟩
  have g0 : DataW.trod enc Tryz.prog W 0 (fun _ => true) true n 3 [c0] = some y0 := (hf 0 _ rfl).trans e0
  obtain ⟨d0, r0⟩ := reads_int enc W Tryz.underlying3 _ _ _ g0
  obtain ⟨y1, e1⟩ : ∃ y, xs[1]? = some y := ⟨_, List.getElem?_eq_getElem (by rw [hxs]; decide)⟩
  have g1 : DataW.trod enc Tryz.prog W 0 (fun _ => true) true n 192 [c1] = some y1 := (hf 1 _ rfl).trans e1
  obtain ⟨d1, r1⟩ := reads_slice (k := 2) Tryz.underlying192 (by kernel_rfl) (by decide) (reads_TagTag enc W) _ _ _ g1
  obtain ⟨y2, e2⟩ : ∃ y, xs[2]? = some y := ⟨_, List.getElem?_eq_getElem (by rw [hxs]; decide)⟩
  have g2 : DataW.trod enc Tryz.prog W 0 (fun _ => true) true n 192 [c2] = some y2 := (hf 2 _ rfl).trans e2
  obtain ⟨d2, r2⟩ := reads_slice (k := 2) Tryz.underlying192 (by kernel_rfl) (by decide) (reads_TagTag enc W) _ _ _ g2
  cases r0
  obtain ⟨v1, q1, s1⟩ := r1
  cases q1
  obtain ⟨v2, q2, s2⟩ := r2
  cases q2
  exact ⟨⟨d0, d1, d2⟩, _, _, rfl, s1, s2⟩

set_option maxRecDepth 100000 in
theorem reads_ClsMethod {H : Type} (enc : TypeId × Value → H) (W : World) : Reads enc W 161 rClsMethod := fun fuel cs x h => by
  obtain ⟨xs, n, rfl, _, hlen, hxs, hf⟩ := DataW.trod_struct Tryz.underlying161 h
  have hlen' : cs.length = 8 := hlen.trans (by kernel_rfl)
  obtain ⟨c0, c1, c2, c3, c4, c5, c6, c7, rfl⟩ : ∃ c0 c1 c2 c3 c4 c5 c6 c7 : Value, cs = [c0, c1, c2, c3, c4, c5, c6, c7] := by
    match cs, hlen' with
    | [c0, c1, c2, c3, c4, c5, c6, c7], _ => exact ⟨_, _, _, _, _, _, _, _, rfl⟩
  obtain ⟨y0, e0⟩ : ∃ y, xs[0]? = some y := ⟨_, List.getElem?_eq_getElem (by rw [hxs]; decide)⟩
  have g0 : DataW.trod enc Tryz.prog W 0 (fun _ => true) true n 9 [c0] = some y0 := (hf 0 _ rfl).trans e0
  obtain ⟨d0, r0⟩ := reads_str enc W Tryz.underlying9 _ _ _ g0
  obtain ⟨y1, e1⟩ : ∃ y, xs[1]? = some y := ⟨_, List.getElem?_eq_getElem (by rw [hxs]; decide)⟩
  have g1 : DataW.trod enc Tryz.prog W 0 (fun _ => true) true n 157 [c1] = some y1 := (hf 1 _ rfl).trans e1
  obtain ⟨d1, r1⟩ := reads_slice (k := 2) Tryz.underlying157 (by kernel_rfl) (by decide) (reads_KndKind enc W) _ _ _ g1
  obtain ⟨y2, e2⟩ : ∃ y, xs[2]? = some y := ⟨_, List.getElem?_eq_getElem (by rw [hxs]; decide)⟩
  have g2 : DataW.trod enc Tryz.prog W 0 (fun _ => true) true n 153 [c2, c3] = some y2 := (hf 2 _ rfl).trans e2
  obtain ⟨d2, r2⟩ := reads_KndKind enc W _ _ _ g2
  obtain ⟨y3, e3⟩ : ∃ y, xs[3]? = some y := ⟨_, List.getElem?_eq_getElem (by rw [hxs]; decide)⟩
  have g3 : DataW.trod enc Tryz.prog W 0 (fun _ => true) true n 3 [c4] = some y3 := (hf 3 _ rfl).trans e3
  obtain ⟨d3, r3⟩ := reads_int enc W Tryz.underlying3 _ _ _ g3
  obtain ⟨y4, e4⟩ : ∃ y, xs[4]? = some y := ⟨_, List.getElem?_eq_getElem (by rw [hxs]; decide)⟩
  have g4 : DataW.trod enc Tryz.prog W 0 (fun _ => true) true n 3 [c5] = some y4 := (hf 4 _ rfl).trans e4
  obtain ⟨d4, r4⟩ := reads_int enc W Tryz.underlying3 _ _ _ g4
  obtain ⟨y5, e5⟩ : ∃ y, xs[5]? = some y := ⟨_, List.getElem?_eq_getElem (by rw [hxs]; decide)⟩
  have g5 : DataW.trod enc Tryz.prog W 0 (fun _ => true) true n 158 [c6] = some y5 := (hf 5 _ rfl).trans e5
  obtain ⟨d5, r5⟩ := reads_slice (k := 4) Tryz.underlying158 (by kernel_rfl) (by decide) (reads_ClsIns enc W) _ _ _ g5
  obtain ⟨y6, e6⟩ : ∃ y, xs[6]? = some y := ⟨_, List.getElem?_eq_getElem (by rw [hxs]; decide)⟩
  have g6 : DataW.trod enc Tryz.prog W 0 (fun _ => true) true n 159 [c7] = some y6 := (hf 6 _ rfl).trans e6
  obtain ⟨d6, r6⟩ := reads_slice (k := 3) Tryz.underlying159 (by kernel_rfl) (by decide) (reads_ClsMap enc W) _ _ _ g6
  obtain ⟨q0, b1⟩ := r0
  cases q0
  obtain ⟨v1, q1, s1⟩ := r1
  cases q1
  obtain ⟨q2, b2⟩ := r2
  cases q2
  cases r3
  cases r4
  obtain ⟨v2, q5, s2⟩ := r5
  cases q5
  obtain ⟨v3, q6, s3⟩ := r6
  cases q6
  exact ⟨⟨d0, d1, d2, d3, d4, d5, d6⟩, _, _, _, rfl, s1, s2, s3, b1, b2⟩

set_option maxRecDepth 100000 in
theorem reads_ClsClass {H : Type} (enc : TypeId × Value → H) (W : World) : Reads enc W 107 rClsClass := fun fuel cs x h => by
  obtain ⟨xs, n, rfl, _, hlen, hxs, hf⟩ := DataW.trod_struct Tryz.underlying107 h
  have hlen' : cs.length = 4 := hlen.trans (by kernel_rfl)
  obtain ⟨c0, c1, c2, c3, rfl⟩ : ∃ c0 c1 c2 c3 : Value, cs = [c0, c1, c2, c3] := by
    match cs, hlen' with
    | [c0, c1, c2, c3], _ => exact ⟨_, _, _, _, rfl⟩
  obtain ⟨y0, e0⟩ : ∃ y, xs[0]? = some y := ⟨_, List.getElem?_eq_getElem (by rw [hxs]; decide)⟩
  have g0 : DataW.trod enc Tryz.prog W 0 (fun _ => true) true n 9 [c0] = some y0 := (hf 0 _ rfl).trans e0
  obtain ⟨d0, r0⟩ := reads_str enc W Tryz.underlying9 _ _ _ g0
  obtain ⟨y1, e1⟩ : ∃ y, xs[1]? = some y := ⟨_, List.getElem?_eq_getElem (by rw [hxs]; decide)⟩
  have g1 : DataW.trod enc Tryz.prog W 0 (fun _ => true) true n 9 [c1] = some y1 := (hf 1 _ rfl).trans e1
  obtain ⟨d1, r1⟩ := reads_str enc W Tryz.underlying9 _ _ _ g1
  obtain ⟨y2, e2⟩ : ∃ y, xs[2]? = some y := ⟨_, List.getElem?_eq_getElem (by rw [hxs]; decide)⟩
  have g2 : DataW.trod enc Tryz.prog W 0 (fun _ => true) true n 104 [c2] = some y2 := (hf 2 _ rfl).trans e2
  obtain ⟨d2, r2⟩ := reads_slice (k := 3) Tryz.underlying104 (by kernel_rfl) (by decide) (reads_ClsField enc W) _ _ _ g2
  obtain ⟨y3, e3⟩ : ∃ y, xs[3]? = some y := ⟨_, List.getElem?_eq_getElem (by rw [hxs]; decide)⟩
  have g3 : DataW.trod enc Tryz.prog W 0 (fun _ => true) true n 105 [c3] = some y3 := (hf 3 _ rfl).trans e3
  obtain ⟨d3, r3⟩ := reads_slice (k := 8) Tryz.underlying105 (by kernel_rfl) (by decide) (reads_ClsMethod enc W) _ _ _ g3
  obtain ⟨q0, b1⟩ := r0
  cases q0
  obtain ⟨q1, b2⟩ := r1
  cases q1
  obtain ⟨v1, q2, s1⟩ := r2
  cases q2
  obtain ⟨v2, q3, s2⟩ := r3
  cases q3
  exact ⟨⟨d0, d1, d2, d3⟩, _, _, rfl, s1, s2, b1, b2⟩

set_option maxRecDepth 100000 in
theorem reads_LodAsk {H : Type} (enc : TypeId × Value → H) (W : World) : Reads enc W 109 rLodAsk := fun fuel cs x h => by
  obtain ⟨xs, n, rfl, _, hlen, hxs, hf⟩ := DataW.trod_struct Tryz.underlying109 h
  have hlen' : cs.length = 2 := hlen.trans (by kernel_rfl)
  obtain ⟨c0, c1, rfl⟩ : ∃ c0 c1 : Value, cs = [c0, c1] := by
    match cs, hlen' with
    | [c0, c1], _ => exact ⟨_, _, rfl⟩
  obtain ⟨y0, e0⟩ : ∃ y, xs[0]? = some y := ⟨_, List.getElem?_eq_getElem (by rw [hxs]; decide)⟩
  have g0 : DataW.trod enc Tryz.prog W 0 (fun _ => true) true n 9 [c0] = some y0 := (hf 0 _ rfl).trans e0
  obtain ⟨d0, r0⟩ := reads_str enc W Tryz.underlying9 _ _ _ g0
  obtain ⟨y1, e1⟩ : ∃ y, xs[1]? = some y := ⟨_, List.getElem?_eq_getElem (by rw [hxs]; decide)⟩
  have g1 : DataW.trod enc Tryz.prog W 0 (fun _ => true) true n 3 [c1] = some y1 := (hf 1 _ rfl).trans e1
  obtain ⟨d1, r1⟩ := reads_int enc W Tryz.underlying3 _ _ _ g1
  obtain ⟨q0, b1⟩ := r0
  cases q0
  cases r1
  exact ⟨⟨d0, d1⟩, rfl, b1⟩

set_option maxRecDepth 100000 in
theorem reads_LodKeeper {H : Type} (enc : TypeId × Value → H) (W : World) : Reads enc W 63 rLodKeeper := fun fuel cs x h => by
  obtain ⟨xs, n, rfl, _, hlen, hxs, hf⟩ := DataW.trod_struct Tryz.underlying63 h
  have hlen' : cs.length = 2 := hlen.trans (by kernel_rfl)
  obtain ⟨c0, c1, rfl⟩ : ∃ c0 c1 : Value, cs = [c0, c1] := by
    match cs, hlen' with
    | [c0, c1], _ => exact ⟨_, _, rfl⟩
  obtain ⟨y0, e0⟩ : ∃ y, xs[0]? = some y := ⟨_, List.getElem?_eq_getElem (by rw [hxs]; decide)⟩
  have g0 : DataW.trod enc Tryz.prog W 0 (fun _ => true) true n 60 [c0] = some y0 := (hf 0 _ rfl).trans e0
  obtain ⟨d0, r0⟩ := reads_slice (k := 4) Tryz.underlying60 (by kernel_rfl) (by decide) (reads_ClsClass enc W) _ _ _ g0
  obtain ⟨y1, e1⟩ : ∃ y, xs[1]? = some y := ⟨_, List.getElem?_eq_getElem (by rw [hxs]; decide)⟩
  have g1 : DataW.trod enc Tryz.prog W 0 (fun _ => true) true n 61 [c1] = some y1 := (hf 1 _ rfl).trans e1
  obtain ⟨d1, r1⟩ := reads_slice (k := 2) Tryz.underlying61 (by kernel_rfl) (by decide) (reads_LodAsk enc W) _ _ _ g1
  obtain ⟨v1, q0, s1⟩ := r0
  cases q0
  obtain ⟨v2, q1, s2⟩ := r1
  cases q1
  exact ⟨⟨d0, d1⟩, _, _, rfl, s1, s2⟩

set_option maxRecDepth 100000 in
theorem reads_LodPlan {H : Type} (enc : TypeId × Value → H) (W : World) : Reads enc W 24 rLodPlan := fun fuel cs x h => by
  obtain ⟨xs, n, rfl, _, hlen, hxs, hf⟩ := DataW.trod_struct Tryz.underlying24 h
  have hlen' : cs.length = 1 := hlen.trans (by kernel_rfl)
  obtain ⟨c0, rfl⟩ : ∃ c0 : Value, cs = [c0] := by
    match cs, hlen' with
    | [c0], _ => exact ⟨_, rfl⟩
  obtain ⟨y0, e0⟩ : ∃ y, xs[0]? = some y := ⟨_, List.getElem?_eq_getElem (by rw [hxs]; decide)⟩
  have g0 : DataW.trod enc Tryz.prog W 0 (fun _ => true) true n 22 [c0] = some y0 := (hf 0 _ rfl).trans e0
  obtain ⟨d0, r0⟩ := reads_slice (k := 2) Tryz.underlying22 (by kernel_rfl) (by decide) (reads_LodKeeper enc W) _ _ _ g0
  obtain ⟨v1, q0, s1⟩ := r0
  cases q0
  exact ⟨⟨d0⟩, _, rfl, s1⟩

end Go.Proofs.YtmmlhnjmjmbfpaaGreat
