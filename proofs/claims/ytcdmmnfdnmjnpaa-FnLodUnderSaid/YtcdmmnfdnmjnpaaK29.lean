/-
  Texts of mine, packed: PlainB. No condition beside those of the single theorems.
-/
import Derived.Test.YtcdmmnfdnmjnpaaK28
set_option linter.unusedSimpArgs false
set_option linter.unusedVariables false
namespace Go.Proofs.Ytcdmmnfdnmjnpaa
open Go.RowKit
theorem any_ref {rs : List DLodRef} {b : DLodRef} : (rs.any fun x => refEq x b) = true ↔ b ∈ rs := by
  rw [List.any_eq_true]
  constructor
  · rintro ⟨x, hx, h⟩
    rw [refEq_iff.1 h] at hx; exact hx
  · exact fun h => ⟨b, h, refEq_self _⟩
theorem plain_under_self {p : DLodPlan} {a : DLodRef} (hn : a.fName.size ≤ maxLen) : lodUnder p a a = !(lodChain p a).isEmpty := by
  unfold lodUnder
  cases h : lodChain p a with
  | nil => rfl
  | cons x t =>
    obtain ⟨_, hr, _⟩ := plain_chain hn (by rw [h]; simp)
    obtain ⟨t', ht⟩ := chainF_head hr
    rw [h] at ht
    cases ht
    rw [any_ref.2 (by simp)]
    rfl
theorem plain_under {p : DLodPlan} {a b : DLodRef} (hn : a.fName.size ≤ maxLen) (h : lodUnder p a b = true) : ∃ k, (lodChain p a)[k]? = some b ∧ lodChain p b = (lodChain p a).drop k := by
  obtain ⟨k, hk⟩ := List.mem_iff_getElem?.1 (any_ref.1 h)
  exact ⟨k, hk, (plain_tail hn hk).2.2⟩
theorem plain_under_two {p : DLodPlan} {a b : DLodRef} (hn : a.fName.size ≤ maxLen) (hm : b.fName.size ≤ maxLen) (h : lodUnder p a b = true) (h2 : lodUnder p b a = true) : a = b := by
  obtain ⟨k, hk, ek⟩ := plain_under hn h
  obtain ⟨j, hj, ej⟩ := plain_under hm h2
  have e1 : (lodChain p b).length = (lodChain p a).length - k := by rw [ek, List.length_drop]
  have e2 : (lodChain p a).length = (lodChain p b).length - j := by rw [ej, List.length_drop]
  have h3 := (List.getElem?_eq_some_iff.1 hk).1
  have hk0 : k = 0 := by omega
  subst hk0
  have hne : lodChain p a ≠ [] := by intro e; rw [e] at hk; simp at hk
  obtain ⟨_, hr, _⟩ := plain_chain hn hne
  obtain ⟨t, ht⟩ := chainF_head hr
  rw [ht] at hk
  simpa using hk
theorem plain_under_three {p : DLodPlan} {a b : DLodRef} (hn : a.fName.size ≤ maxLen) (h : lodUnder p a b = true) : ∀ x ∈ lodChain p b, lodUnder p a x = true := by
  obtain ⟨k, hk, ek⟩ := plain_under hn h
  intro x hx
  rw [ek] at hx
  exact any_ref.2 (List.mem_of_mem_drop hx)
theorem plain_under_not {p : DLodPlan} {a b : DLodRef} (hn : a.fName.size ≤ maxLen) (h : lodUnder p a b = true) : lodChain p b ≠ [] := by
  obtain ⟨k, hk, ek⟩ := plain_under hn h
  have h3 := (List.getElem?_eq_some_iff.1 hk).1
  intro e
  have : (lodChain p b).length = (lodChain p a).length - k := by rw [ek, List.length_drop]
  rw [e] at this
  simp at this
  omega

end Go.Proofs.Ytcdmmnfdnmjnpaa
