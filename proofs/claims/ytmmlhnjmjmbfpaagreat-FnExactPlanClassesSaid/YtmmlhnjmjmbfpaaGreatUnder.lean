

/-
  The walks of the program's under and LodUnder. Condition: the data can be read.
-/
import Derived.Test.YtmmlhnjmjmbfpaaGreatChain
namespace Go.Proofs.YtmmlhnjmjmbfpaaGreat
set_option linter.unusedSimpArgs false
set_option linter.unusedVariables false
open Go.RowKit

theorem flatR_at : ∀ {rs : List DLodRef} {k : Nat} {x : DLodRef}, rs[k]? = some x → (flatR rs)[k * 2]? = some (.int .i64 x.fKeeper) ∧ (flatR rs)[k * 2 + 1]? = some (.string x.fName)
  | [], k, x, h => by simp at h
  | y :: rs, 0, x, h => by simp at h; subst h; simp [flatR]
  | y :: rs, k + 1, x, h => by
    have h' : rs[k]? = some x := by simpa using h
    have := flatR_at h'
    rw [show (k + 1) * 2 = k * 2 + 2 by omega]
    simpa [flatR] using this
theorem Refs.cell2 {w : World} {base g n cap : Nat} {rs : List DLodRef} (h : Refs w base (.slice (some ⟨g, 0, none⟩) n cap) rs) {k : Nat} {x : DLodRef} (hk : rs[k]? = some x) : w.cell? ⟨g, k * 2, none⟩ = some (.int .i64 x.fKeeper) ∧ w.cell? ⟨g, k * 2 + 1, none⟩ = some (.string x.fName) := by
  obtain ⟨h1, h2⟩ := flatR_at hk
  have e1 := World.ownsRow.cells h (g := g) rfl _ _ h1
  have e2 := World.ownsRow.cells h (g := g) rfl _ _ h2
  rw [Addr.add_mid, Nat.zero_add] at e1 e2
  exact ⟨e1, e2⟩
theorem any_not {rs : List DLodRef} {b : DLodRef} {k : Nat} (h : EachTo (nots fun x => refEq x b) rs k = true) (hk : rs.length ≤ k) : rs.any (fun x => refEq x b) = false := by
  rw [Bool.eq_false_iff]
  intro hq
  obtain ⟨x, hx, hb⟩ := List.any_eq_true.1 hq
  obtain ⟨j, hj⟩ := List.mem_iff_getElem?.1 hx
  have := EachTo.mem h j x (by have := (List.getElem?_eq_some_iff.1 hj).1; omega) hj
  simp [nots, hb] at this


theorem lodUnder_no {p : DLodPlan} (h : lodOk p = false) (r b : DLodRef) : lodUnder p r b = false := by
  unfold lodUnder lodChain
  rw [lodFind_no h]; rfl


end Go.Proofs.YtmmlhnjmjmbfpaaGreat
