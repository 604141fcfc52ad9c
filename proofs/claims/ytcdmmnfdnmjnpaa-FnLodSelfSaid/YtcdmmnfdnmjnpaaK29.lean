/-
  Texts of mine, packed: PlainB. No condition beside those of the single theorems.
-/
import Derived.Test.YtcdmmnfdnmjnpaaK28
set_option linter.unusedSimpArgs false
set_option linter.unusedVariables false
namespace Go.Proofs.Ytcdmmnfdnmjnpaa
open Go.RowKit
theorem plain_self {owns : List DClsClass} (h0 : owns.length ≤ 5) (h : each (ownIn owns) owns = true) {j : Nat} {c : DClsClass} (hj : owns[j]? = some c) :
    lodOk ⟨[⟨owns, []⟩]⟩ = true ∧ ((lodFind ⟨[⟨owns, []⟩]⟩ 0 c.fName).2 = 1 ∧ (lodFind ⟨[⟨owns, []⟩]⟩ 0 c.fName).1 = ⟨0, c.fName⟩ ∨ (lodFind ⟨[⟨owns, []⟩]⟩ 0 c.fName).2 = 4) := by
  have hx : lodOk ⟨[⟨owns, []⟩]⟩ = true := lod_ok (by simp) fun k hk => by
    rw [List.mem_singleton] at hk
    subst hk
    simp only [keeperOk, Bool.and_eq_true, decide_eq_true_eq]
    exact ⟨⟨⟨h0, by simp⟩, h⟩, rfl⟩
  refine ⟨hx, ?_⟩
  have hok : clsOk c = true := by
    have := each_iff.1 h j c hj
    simp only [ownIn, Bool.and_eq_true] at this
    exact this.1
  have hn : namOk c.fName = true := by
    unfold clsOk at hok
    simp only [Bool.and_eq_true] at hok
    exact hok.1.1.1.1.1
  have ho : 0 ≤ ownN ⟨[⟨owns, []⟩]⟩ c.fName 0 := by
    unfold ownN
    simp only [List.getElem?_cons_zero]
    rcases firstAt_cases (fun d : DClsClass => sameN d.fName c.fName) owns with ⟨_, h2⟩ | ⟨k, x, h1, _⟩
    · have := h2 j c hj
      rw [sameN_self] at this
      cases this
    · unfold ownAt; rw [h1]; omega
  have hw : whose ⟨[⟨owns, []⟩]⟩ 0 c.fName = (1, 0) := by
    have hnx : nxt ⟨[⟨owns, []⟩]⟩ c.fName 0 < 0 := by
      unfold nxt
      simp [asksOf]
    unfold whose
    rw [whoseF, if_pos hnx, if_neg (by omega)]
  have e : lodFind ⟨[⟨owns, []⟩]⟩ 0 c.fName = findR ⟨[⟨owns, []⟩]⟩ 0 c.fName := lodFind_in hx (i := 0) (by simp) hn
  rw [e]
  unfold findR whoseR
  rw [hw]
  simp only [if_true]
  cases e : (chainR ⟨[⟨owns, []⟩]⟩ ⟨((0 : Nat) : Int), c.fName⟩).isSome
  · right; simp
  · left; simp

end Go.Proofs.Ytcdmmnfdnmjnpaa
