/-
  Texts of mine, packed: Plain. No condition beside those of the single theorems.
-/
import Derived.Test.YtcdmmnfdnmjnpaaK17
import Derived.Test.YtcdmmnfdnmjnpaaK2
set_option linter.unusedSimpArgs false
set_option linter.unusedVariables false
namespace Go.Proofs.Ytcdmmnfdnmjnpaa
open Go.RowKit
theorem find_first {α : Type} (p : α → Bool) (xs : List α) : xs.find? p = if 0 ≤ firstAt p xs then xs[(firstAt p xs).toNat]? else none := by
  rcases firstAt_cases p xs with ⟨h1, h2⟩ | ⟨k, x, h1, h2, h3, h4⟩
  · rw [if_neg (by omega), List.find?_eq_none]
    intro x hx
    obtain ⟨i, hi⟩ := List.mem_iff_getElem?.1 hx
    simp [h2 i x hi]
  · rw [if_pos (by omega), h1, Int.toNat_natCast, h2]
    obtain ⟨hk, rfl⟩ := List.getElem?_eq_some_iff.1 h2
    rw [List.find?_eq_some_iff_getElem]
    exact ⟨h3, k, hk, rfl, fun j hj => by have := h4 j xs[j] hj (List.getElem?_eq_getElem (by omega)); simpa using this⟩

def loOfP (p : DLodPlan) (r : DLodRef) : DClsClass := if inPlan p r.fKeeper then (match p.fKeepers[r.fKeeper.toNat]? with | some k => (match k.fOwns.find? (fun c => sameN c.fName r.fName) with | some c => c | none => nilCls) | none => nilCls) else nilCls
theorem clsAt_some {p : DLodPlan} {r : DLodRef} {c : DClsClass} (h : clsAt p r = some c) : 0 ≤ r.fKeeper ∧ ∃ k, p.fKeepers[r.fKeeper.toNat]? = some k ∧ 0 ≤ ownAt k.fOwns r.fName ∧ k.fOwns[(ownAt k.fOwns r.fName).toNat]? = some c := by
  unfold clsAt at h
  by_cases h0 : 0 ≤ r.fKeeper
  · rw [if_pos h0] at h
    cases hk : p.fKeepers[r.fKeeper.toNat]? with
    | none => rw [hk] at h; cases h
    | some k =>
      rw [hk] at h
      simp only at h
      by_cases ho : 0 ≤ ownAt k.fOwns r.fName
      · rw [if_pos ho] at h
        exact ⟨h0, k, rfl, ho, h⟩
      · rw [if_neg ho] at h; cases h
  · rw [if_neg h0] at h; cases h
theorem ownAt_name {xs : List DClsClass} {nm : ByteArray} {c : DClsClass} (h0 : 0 ≤ ownAt xs nm) (h : xs[(ownAt xs nm).toNat]? = some c) : c.fName = nm := by
  rcases firstAt_cases (fun c : DClsClass => sameN c.fName nm) xs with ⟨h1, _⟩ | ⟨k, x, h1, h2, h3, _⟩
  · unfold ownAt at h0; rw [h1] at h0; omega
  · unfold ownAt at h
    rw [h1, Int.toNat_natCast, h2] at h
    cases h
    exact sameN_iff.1 h3
theorem loOf_some {p : DLodPlan} {r : DLodRef} {c : DClsClass} (h : clsAt p r = some c) : loOfP p r = c ∧ c.fName = r.fName ∧ ∃ k ∈ p.fKeepers, c ∈ k.fOwns := by
  obtain ⟨h0, k, hk, ho, hc⟩ := clsAt_some h
  refine ⟨?_, ownAt_name ho hc, k, List.mem_of_getElem? hk, List.mem_of_getElem? hc⟩
  unfold loOfP
  have hin : inPlan p r.fKeeper = true := by
    unfold inPlan
    have := (List.getElem?_eq_some_iff.1 hk).1
    simp; omega
  rw [if_pos hin, hk]
  simp only
  rw [find_first]
  show (match (if 0 ≤ ownAt k.fOwns r.fName then k.fOwns[(ownAt k.fOwns r.fName).toNat]? else none) with | some c => c | none => nilCls) = c
  rw [if_pos ho, hc]
theorem chainF_succ {p : DLodPlan} {f : Nat} {r : DLodRef} {rs : List DLodRef} (h : chainF p (f + 1) r = some rs) : ∃ c, clsAt p r = some c ∧ ((c.fSuper.toList.isEmpty = true ∧ rs = [r]) ∨ (c.fSuper.toList.isEmpty = false ∧ (whoseR p r.fKeeper.toNat c.fSuper).2 = 1 ∧ ∃ t, chainF p f (whoseR p r.fKeeper.toNat c.fSuper).1 = some t ∧ rs = r :: t)) := by
  unfold chainF at h
  cases hc : clsAt p r with
  | none => rw [hc] at h; cases h
  | some c =>
    rw [hc] at h
    simp only at h
    refine ⟨c, rfl, ?_⟩
    by_cases hs : c.fSuper.toList.isEmpty = true
    · rw [if_pos hs] at h
      exact Or.inl ⟨hs, (Option.some.inj h).symm⟩
    · rw [if_neg hs] at h
      by_cases hw : (whoseR p r.fKeeper.toNat c.fSuper).2 = 1
      · rw [if_pos hw] at h
        cases e : chainF p f (whoseR p r.fKeeper.toNat c.fSuper).1 with
        | none => rw [e] at h; cases h
        | some t =>
          rw [e] at h
          exact Or.inr ⟨by simpa using hs, hw, t, rfl, (Option.some.inj h).symm⟩
      · rw [if_neg hw] at h; cases h
theorem chainF_head {p : DLodPlan} {f : Nat} {r : DLodRef} {rs : List DLodRef} (h : chainF p f r = some rs) : ∃ t, rs = r :: t := by
  cases f with
  | zero => cases h
  | succ f =>
    obtain ⟨c, _, ⟨_, rfl⟩ | ⟨_, _, t, _, rfl⟩⟩ := chainF_succ h
    · exact ⟨[], rfl⟩
    · exact ⟨t, rfl⟩
theorem namOk_short {n : ByteArray} (h : namOk n = true) : n.size ≤ 6 := by
  unfold namOk at h
  simp only [Bool.and_eq_true, decide_eq_true_eq] at h
  exact h.1.2
theorem namOk_maxLen {n : ByteArray} (h : namOk n = true) : n.size ≤ maxLen := by have := namOk_short h; unfold maxLen; omega
theorem lodFind_in {p : DLodPlan} (hp : lodOk p = true) {i : Nat} (hi : i < p.fKeepers.length) {nm : ByteArray} (hn : namOk nm = true) : lodFind p (i : Int) nm = findR p i nm := by
  unfold lodFind
  have hin : inPlan p (i : Int) = true := by unfold inPlan; simp; omega
  rw [hp, hin, hn]
  simp
theorem plain_find (p : DLodPlan) (k : Int) (nm : ByteArray) : ((lodFind p k nm).2 = 1 → lodFind p (lodFind p k nm).1.fKeeper (lodFind p k nm).1.fName = lodFind p k nm ∧ (lodFind p k nm).1.fName = nm ∧ (loOfP p (lodFind p k nm).1).fName = nm) ∧
    ((lodFind p k nm).2 ≠ 1 → (lodFind p k nm).1 = noRef ∧ 2 ≤ (lodFind p k nm).2 ∧ (lodFind p k nm).2 ≤ 4) := by
  by_cases h1 : (lodOk p && inPlan p k && namOk nm) = true
  · have h1' := h1
    simp only [Bool.and_eq_true] at h1'
    obtain ⟨⟨hp, hin⟩, hn⟩ := h1'
    unfold inPlan at hin
    simp only [Bool.and_eq_true, decide_eq_true_eq] at hin
    have hk : lodFind p k nm = findR p k.toNat nm := by unfold lodFind; rw [if_pos h1]
    constructor
    · intro hc
      rw [hk] at hc
      obtain ⟨j, rs, he, ht, hr, hf, _⟩ := findR_again hp (i := k.toNat) (by omega) (namOk_maxLen hn) hc
      rw [hk, he]
      refine ⟨hf, rfl, ?_⟩
      obtain ⟨c, hc⟩ := ht.cls
      obtain ⟨h2, h3, _⟩ := loOf_some hc
      rw [h2, h3]
    · intro hc
      rw [hk] at hc ⊢
      unfold findR at hc ⊢
      by_cases hw : (whoseR p k.toNat nm).2 = 1
      · rw [if_pos hw] at hc ⊢
        cases e : (chainR p (whoseR p k.toNat nm).1).isSome
        · simp
        · rw [e] at hc; simp [hw] at hc
      · rw [if_neg hw]
        refine ⟨rfl, ?_⟩
        unfold whoseR at hw ⊢
        by_cases h2 : (whose p k.toNat nm).1 = 1
        · rw [if_pos h2] at hw; exact absurd rfl hw
        · rw [if_neg h2]
          rcases whoseF_code p nm 4 k.toNat with h3 | h3 | h3
          · exact absurd h3 h2
          · show 2 ≤ (whose p k.toNat nm).1 ∧ (whose p k.toNat nm).1 ≤ 4
            unfold whose; omega
          · show 2 ≤ (whose p k.toNat nm).1 ∧ (whose p k.toNat nm).1 ≤ 4
            unfold whose; omega
  · have hk : lodFind p k nm = (noRef, 2) := by unfold lodFind; rw [if_neg h1]
    rw [hk]
    exact ⟨fun h => absurd h (by decide), fun _ => ⟨rfl, by decide, by decide⟩⟩

theorem plain_chain_none {p : DLodPlan} {r : DLodRef} (hn : r.fName.size ≤ maxLen) : lodChain p r = [] ↔ ¬ ((lodFind p r.fKeeper r.fName).2 = 1 ∧ (lodFind p r.fKeeper r.fName).1 = r) := by
  constructor
  · intro h ⟨h1, h2⟩
    obtain ⟨ht, rs, hr, hc⟩ := lodChain_there hn h1 (refEq_iff.2 h2)
    obtain ⟨t, rfl⟩ := chainF_head hr
    rw [hc] at h
    cases h
  · intro h
    unfold lodChain
    by_cases h1 : (lodFind p r.fKeeper r.fName).2 = 1
    · rw [if_pos h1]
      by_cases h2 : refEq (lodFind p r.fKeeper r.fName).1 r = true
      · exact absurd ⟨h1, refEq_iff.1 h2⟩ h
      · rw [if_neg h2]
    · rw [if_neg h1]
end Go.Proofs.Ytcdmmnfdnmjnpaa
