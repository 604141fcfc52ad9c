/-
  Texts of mine, packed: Plain. No condition beside those of the single theorems.
-/
import Derived.Test.YtcdmmnfdnmjnpaaK17
import Derived.Test.YtcdmmnfdnmjnpaaK2
set_option linter.unusedSimpArgs false
set_option linter.unusedVariables false
namespace Go.Proofs.Ytcdmmnfdnmjnpaa
open Go.RowKit
theorem find_first {α : Type} (p : α → Bool) (xs : List α) : xs.find? p = if 0 ≤ firstAt p xs then xs[(firstAt p xs).toNat]? else none := by
  rcases firstAt_cases p xs with ⟨h1, h2⟩ | ⟨k, x, h1, h2, h3, h4⟩
  · rw [if_neg (by omega), List.find?_eq_none]
    intro x hx
    obtain ⟨i, hi⟩ := List.mem_iff_getElem?.1 hx
    simp [h2 i x hi]
  · rw [if_pos (by omega), h1, Int.toNat_natCast, h2]
    obtain ⟨hk, rfl⟩ := List.getElem?_eq_some_iff.1 h2
    rw [List.find?_eq_some_iff_getElem]
    exact ⟨h3, k, hk, rfl, fun j hj => by have := h4 j xs[j] hj (List.getElem?_eq_getElem (by omega)); simpa using this⟩

def loOfP (p : DLodPlan) (r : DLodRef) : DClsClass := if inPlan p r.fKeeper then (match p.fKeepers[r.fKeeper.toNat]? with | some k => (match k.fOwns.find? (fun c => sameN c.fName r.fName) with | some c => c | none => nilCls) | none => nilCls) else nilCls
theorem clsAt_some {p : DLodPlan} {r : DLodRef} {c : DClsClass} (h : clsAt p r = some c) : 0 ≤ r.fKeeper ∧ ∃ k, p.fKeepers[r.fKeeper.toNat]? = some k ∧ 0 ≤ ownAt k.fOwns r.fName ∧ k.fOwns[(ownAt k.fOwns r.fName).toNat]? = some c := by
  unfold clsAt at h
  by_cases h0 : 0 ≤ r.fKeeper
  · rw [if_pos h0] at h
    cases hk : p.fKeepers[r.fKeeper.toNat]? with
    | none => rw [hk] at h; cases h
    | some k =>
      rw [hk] at h
      simp only at h
      by_cases ho : 0 ≤ ownAt k.fOwns r.fName
      · rw [if_pos ho] at h
        exact ⟨h0, k, rfl, ho, h⟩
      · rw [if_neg ho] at h; cases h
  · rw [if_neg h0] at h; cases h
theorem ownAt_name {xs : List DClsClass} {nm : ByteArray} {c : DClsClass} (h0 : 0 ≤ ownAt xs nm) (h : xs[(ownAt xs nm).toNat]? = some c) : c.fName = nm := by
  rcases firstAt_cases (fun c : DClsClass => sameN c.fName nm) xs with ⟨h1, _⟩ | ⟨k, x, h1, h2, h3, _⟩
  · unfold ownAt at h0; rw [h1] at h0; omega
  · unfold ownAt at h
    rw [h1, Int.toNat_natCast, h2] at h
    cases h
    exact sameN_iff.1 h3
theorem loOf_some {p : DLodPlan} {r : DLodRef} {c : DClsClass} (h : clsAt p r = some c) : loOfP p r = c ∧ c.fName = r.fName ∧ ∃ k ∈ p.fKeepers, c ∈ k.fOwns := by
  obtain ⟨h0, k, hk, ho, hc⟩ := clsAt_some h
  refine ⟨?_, ownAt_name ho hc, k, List.mem_of_getElem? hk, List.mem_of_getElem? hc⟩
  unfold loOfP
  have hin : inPlan p r.fKeeper = true := by
    unfold inPlan
    have := (List.getElem?_eq_some_iff.1 hk).1
    simp; omega
  rw [if_pos hin, hk]
  simp only
  rw [find_first]
  show (match (if 0 ≤ ownAt k.fOwns r.fName then k.fOwns[(ownAt k.fOwns r.fName).toNat]? else none) with | some c => c | none => nilCls) = c
  rw [if_pos ho, hc]
theorem lodFind_in {p : DLodPlan} (hp : lodOk p = true) {i : Nat} (hi : i < p.fKeepers.length) {nm : ByteArray} (hn : namOk nm = true) : lodFind p (i : Int) nm = findR p i nm := by
  unfold lodFind
  have hin : inPlan p (i : Int) = true := by unfold inPlan; simp; omega
  rw [hp, hin, hn]
  simp
end Go.Proofs.Ytcdmmnfdnmjnpaa
