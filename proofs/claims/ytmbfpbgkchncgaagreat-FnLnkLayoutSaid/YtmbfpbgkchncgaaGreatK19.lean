/-
  Texts of mine, packed: Plain, PlainB. No condition beside those of the single theorems.
-/
import Derived.Test.YtmbfpbgkchncgaaGreatK17
import Derived.Test.YtmbfpbgkchncgaaGreatK2
set_option linter.unusedSimpArgs false
set_option linter.unusedVariables false
set_option maxHeartbeats 16000000
set_option maxRecDepth 100000
namespace Go.Proofs.YtmbfpbgkchncgaaGreat
open Go.RowKit
theorem find_first {α : Type} (p : α → Bool) (xs : List α) : xs.find? p = if 0 ≤ firstAt p xs then xs[(firstAt p xs).toNat]? else none := by
 rcases firstAt_cases p xs with ⟨h1, h2⟩ | ⟨k, x, h1, h2, h3, h4⟩
 ·rw [if_neg (by omega), List.find?_eq_none]
  intro x hx
  obtain ⟨i, hi⟩ := List.mem_iff_getElem?.1 hx
  simp [h2 i x hi]
 ·rw [if_pos (by omega), h1, Int.toNat_natCast, h2]
  obtain ⟨hk, rfl⟩ := List.getElem?_eq_some_iff.1 h2
  rw [List.find?_eq_some_iff_getElem]
  exact ⟨h3, k, hk, rfl, fun j hj => by have := h4 j xs[j] hj (List.getElem?_eq_getElem (by omega)); simpa using this⟩

def loOfP (p : DLodPlan) (r : DLodRef) : DClsClass := if inPlan p r.fKeeper then (match p.fKeepers[r.fKeeper.toNat]? with | some k => (match k.fOwns.find? (fun c => sameN c.fName r.fName) with | some c => c | none => nilCls) | none => nilCls) else nilCls
theorem clsAt_some {p : DLodPlan} {r : DLodRef} {c : DClsClass} (h : clsAt p r = some c) : 0 ≤ r.fKeeper ∧ ∃ k, p.fKeepers[r.fKeeper.toNat]? = some k ∧ 0 ≤ ownAt k.fOwns r.fName ∧ k.fOwns[(ownAt k.fOwns r.fName).toNat]? = some c := by
 unfold clsAt at h
 by_cases h0 : 0 ≤ r.fKeeper
 ·rw [if_pos h0] at h
  cases hk : p.fKeepers[r.fKeeper.toNat]? with
  | none => rw [hk] at h; cases h
  | some k =>
    rw [hk] at h
    simp only at h
    by_cases ho : 0 ≤ ownAt k.fOwns r.fName
    ·rw [if_pos ho] at h
     exact ⟨h0, k, rfl, ho, h⟩
    ·rw [if_neg ho] at h; cases h
 ·rw [if_neg h0] at h; cases h
theorem ownAt_name {xs : List DClsClass} {nm : ByteArray} {c : DClsClass} (h0 : 0 ≤ ownAt xs nm) (h : xs[(ownAt xs nm).toNat]? = some c) : c.fName = nm := by
 rcases firstAt_cases (fun c : DClsClass => sameN c.fName nm) xs with ⟨h1, _⟩ | ⟨k, x, h1, h2, h3, _⟩
 ·unfold ownAt at h0; rw [h1] at h0; omega
 ·unfold ownAt at h
  rw [h1, Int.toNat_natCast, h2] at h
  cases h
  exact sameN_iff.1 h3
theorem loOf_some {p : DLodPlan} {r : DLodRef} {c : DClsClass} (h : clsAt p r = some c) : loOfP p r = c ∧ c.fName = r.fName ∧ ∃ k ∈ p.fKeepers, c ∈ k.fOwns := by
 obtain ⟨h0, k, hk, ho, hc⟩ := clsAt_some h
 refine ⟨?_, ownAt_name ho hc, k, List.mem_of_getElem? hk, List.mem_of_getElem? hc⟩
 unfold loOfP
 have hin : inPlan p r.fKeeper = true := by
  unfold inPlan
  have := (List.getElem?_eq_some_iff.1 hk).1
  simp; omega
 rw [if_pos hin, hk]
 simp only
 rw [find_first]
 show (match (if 0 ≤ ownAt k.fOwns r.fName then k.fOwns[(ownAt k.fOwns r.fName).toNat]? else none) with | some c => c | none => nilCls) = c
 rw [if_pos ho, hc]
theorem chainF_succ {p : DLodPlan} {f : Nat} {r : DLodRef} {rs : List DLodRef} (h : chainF p (f + 1) r = some rs) : ∃ c, clsAt p r = some c ∧ ((c.fSuper.toList.isEmpty = true ∧ rs = [r]) ∨ (c.fSuper.toList.isEmpty = false ∧ (whoseR p r.fKeeper.toNat c.fSuper).2 = 1 ∧ ∃ t, chainF p f (whoseR p r.fKeeper.toNat c.fSuper).1 = some t ∧ rs = r :: t)) := by
 unfold chainF at h
 cases hc : clsAt p r with
 | none => rw [hc] at h; cases h
 | some c =>
   rw [hc] at h
   simp only at h
   refine ⟨c, rfl, ?_⟩
   by_cases hs : c.fSuper.toList.isEmpty = true
   ·rw [if_pos hs] at h
    exact Or.inl ⟨hs, (Option.some.inj h).symm⟩
   ·rw [if_neg hs] at h
    by_cases hw : (whoseR p r.fKeeper.toNat c.fSuper).2 = 1
    ·rw [if_pos hw] at h
     cases e : chainF p f (whoseR p r.fKeeper.toNat c.fSuper).1 with
     | none => rw [e] at h; cases h
     | some t =>
       rw [e] at h
       exact Or.inr ⟨by simpa using hs, hw, t, rfl, (Option.some.inj h).symm⟩
    ·rw [if_neg hw] at h; cases h
theorem chainF_head {p : DLodPlan} {f : Nat} {r : DLodRef} {rs : List DLodRef} (h : chainF p f r = some rs) : ∃ t, rs = r :: t := by
 cases f with
 | zero => cases h
 | succ f =>
   obtain ⟨c, _, ⟨_, rfl⟩ | ⟨_, _, t, _, rfl⟩⟩ := chainF_succ h
   ·exact ⟨[], rfl⟩
   ·exact ⟨t, rfl⟩
theorem chainF_len {p : DLodPlan} : ∀ {f : Nat} {r : DLodRef} {rs : List DLodRef}, chainF p f r = some rs → rs.length ≤ f
 | 0, _, _, h => by cases h
 | f + 1, r, rs, h => by
   obtain ⟨c, _, ⟨_, rfl⟩ | ⟨_, _, t, ht, rfl⟩⟩ := chainF_succ h
   ·simp
   ·have := chainF_len ht
    simp; omega
theorem chainF_more {p : DLodPlan} : ∀ {f : Nat} {r : DLodRef} {rs : List DLodRef}, chainF p f r = some rs → chainF p (f + 1) r = some rs
 | 0, _, _, h => by cases h
 | f + 1, r, rs, h => by
   obtain ⟨c, hc, ⟨hs, rfl⟩ | ⟨hs, hw, t, ht, rfl⟩⟩ := chainF_succ h
   ·rw [chainF, hc]; simp only; rw [if_pos hs]
   ·rw [chainF, hc]; simp only; rw [if_neg (by rw [hs]; decide), if_pos hw, chainF_more ht]; rfl
theorem chainF_tail {p : DLodPlan} : ∀ {f : Nat} {r : DLodRef} {rs : List DLodRef}, chainF p f r = some rs → ∀ (k : Nat) (x : DLodRef), rs[k]? = some x → chainF p f x = some (rs.drop k)
 | 0, _, _, h, _, _, _ => by cases h
 | f + 1, r, rs, h, 0, x, hx => by
   obtain ⟨t, rfl⟩ := chainF_head h
   simp at hx; subst hx
   simpa using h
 | f + 1, r, rs, h, k + 1, x, hx => by
   obtain ⟨c, hc, ⟨hs, rfl⟩ | ⟨hs, hw, t, ht, rfl⟩⟩ := chainF_succ h
   ·simp at hx
   ·have := chainF_tail ht k x (by simpa using hx)
    simpa using chainF_more this
theorem chainF_next {p : DLodPlan} {f : Nat} {r : DLodRef} {rs : List DLodRef} (h : chainF p f r = some rs) {k : Nat} {x : DLodRef} (hx : rs[k]? = some x) :
  ∃ c, clsAt p x = some c ∧ ((c.fSuper.toList.isEmpty = true ∧ rs.length = k + 1) ∨ (c.fSuper.toList.isEmpty = false ∧ (whoseR p x.fKeeper.toNat c.fSuper).2 = 1 ∧ rs[k + 1]? = some (whoseR p x.fKeeper.toNat c.fSuper).1)) := by
 have ht := chainF_tail h k x hx
 have hk := (List.getElem?_eq_some_iff.1 hx).1
 cases f with
 | zero => cases h
 | succ f =>
   obtain ⟨c, hc, ⟨hs, e⟩ | ⟨hs, hw, t, ht2, e⟩⟩ := chainF_succ ht
   ·refine ⟨c, hc, Or.inl ⟨hs, ?_⟩⟩
    have : (rs.drop k).length = 1 := by rw [e]; rfl
    rw [List.length_drop] at this
    omega
   ·refine ⟨c, hc, Or.inr ⟨hs, hw, ?_⟩⟩
    obtain ⟨t2, rfl⟩ := chainF_head ht2
    have : (rs.drop k)[1]? = some (whoseR p x.fKeeper.toNat c.fSuper).1 := by rw [e]; rfl
    rwa [List.getElem?_drop] at this
theorem clsAt_clsOk {p : DLodPlan} (hp : lodOk p = true) {r : DLodRef} {c : DClsClass} (h : clsAt p r = some c) : clsOk c = true := by
 obtain ⟨_, k, hk, _, hc⟩ := clsAt_some h
 obtain ⟨_, _, ho, _⟩ := keeperOk_parts (lodOk_keeper hp hk)
 have := each_iff.1 ho _ c hc
 simp only [ownIn, Bool.and_eq_true] at this
 exact this.1
theorem namOk_short {n : ByteArray} (h : namOk n = true) : n.size ≤ 6 := by
 unfold namOk at h
 simp only [Bool.and_eq_true, decide_eq_true_eq] at h
 exact h.1.2
theorem namOk_maxLen {n : ByteArray} (h : namOk n = true) : n.size ≤ maxLen := by have := namOk_short h; unfold maxLen; omega
theorem clsAt_in {p : DLodPlan} {r : DLodRef} {c : DClsClass} (h : clsAt p r = some c) : ∃ j : Nat, r.fKeeper = (j : Int) ∧ j < p.fKeepers.length := by
 obtain ⟨h0, k, hk, _⟩ := clsAt_some h
 exact ⟨r.fKeeper.toNat, by omega, (List.getElem?_eq_some_iff.1 hk).1⟩
theorem lodFind_in {p : DLodPlan} (hp : lodOk p = true) {i : Nat} (hi : i < p.fKeepers.length) {nm : ByteArray} (hn : namOk nm = true) : lodFind p (i : Int) nm = findR p i nm := by
 unfold lodFind
 have hin : inPlan p (i : Int) = true := by unfold inPlan; simp; omega
 rw [hp, hin, hn]
 simp
theorem findR_of {p : DLodPlan} {i : Nat} {nm : ByteArray} {y : DLodRef} {t : List DLodRef} (hw : (whoseR p i nm).2 = 1) (he : (whoseR p i nm).1 = y) (ht : chainR p y = some t) : findR p i nm = (y, 1) := by
 unfold findR
 rw [if_pos hw, he, ht]
 simp only [Option.isSome_some, if_true]
 rw [← he, ← hw]

theorem plain_chain {p : DLodPlan} {r : DLodRef} (hn : r.fName.size ≤ maxLen) (h : lodChain p r ≠ []) : lodOk p = true ∧ chainR p r = some (lodChain p r) ∧ lodFind p r.fKeeper r.fName = (r, 1) := by
 unfold lodChain at h
 by_cases h1 : (lodFind p r.fKeeper r.fName).2 = 1
 ·rw [if_pos h1] at h
  by_cases h2 : refEq (lodFind p r.fKeeper r.fName).1 r = true
  ·obtain ⟨ht, rs, hr, hc⟩ := lodChain_there hn h1 h2
   exact ⟨(lodFind_there hn h1).1, by rw [hc, hr], Prod.ext (refEq_iff.1 h2) h1⟩
  ·rw [if_neg h2] at h; exact absurd rfl h
 ·rw [if_neg h1] at h; exact absurd rfl h
theorem plain_tail {p : DLodPlan} {r : DLodRef} (hn : r.fName.size ≤ maxLen) {k : Nat} {x : DLodRef} (hx : (lodChain p r)[k]? = some x) : x.fName.size ≤ maxLen ∧ lodFind p x.fKeeper x.fName = (x, 1) ∧ lodChain p x = (lodChain p r).drop k := by
 have hne : lodChain p r ≠ [] := by intro e; rw [e] at hx; simp at hx
 obtain ⟨hp, hr, _⟩ := plain_chain hn hne
 have ht : chainR p x = some ((lodChain p r).drop k) := chainF_tail hr k x hx
 obtain ⟨c, hc, _⟩ := chainF_next hr hx
 obtain ⟨hl, hnm, _⟩ := loOf_some hc
 have hok := clsAt_clsOk hp hc
 have hname : namOk x.fName = true := by
  unfold clsOk at hok
  simp only [Bool.and_eq_true] at hok
  rw [← hnm]
  exact hok.1.1.1.1.1
 obtain ⟨j, hj, hjl⟩ := clsAt_in hc
 have hw : (whoseR p j x.fName).2 = 1 ∧ (whoseR p j x.fName).1 = x := by
  cases k with
  | zero =>
    obtain ⟨t, ht0⟩ := chainF_head hr
    rw [ht0] at hx
    simp at hx
    subst hx
    obtain ⟨_, _, hf⟩ := plain_chain hn hne
    rw [hj, lodFind_in hp hjl hname] at hf
    unfold findR at hf
    by_cases h1 : (whoseR p j r.fName).2 = 1
    ·rw [if_pos h1] at hf
     split at hf
     ·rw [hf]; exact ⟨rfl, rfl⟩
     ·simp at hf
    ·rw [if_neg h1] at hf
     exact absurd (congrArg Prod.snd hf) h1
  | succ k =>
    obtain ⟨y, hy⟩ : ∃ y, (lodChain p r)[k]? = some y := ⟨_, List.getElem?_eq_getElem (by have := (List.getElem?_eq_some_iff.1 hx).1; omega)⟩
    obtain ⟨cy, hcy, ⟨_, he⟩ | ⟨_, hw, he⟩⟩ := chainF_next hr hy
    ·have := (List.getElem?_eq_some_iff.1 hx).1; omega
    ·rw [hx] at he
     have he := (Option.some.inj he).symm
     obtain ⟨j', hj', hjl'⟩ := clsAt_in hcy
     rw [hj', Int.toNat_natCast] at hw he
     obtain ⟨i, hi1, hi2, hi3⟩ := whoseR_there hp hjl' hw
     rw [hi1] at he
     subst he
     have : i = j := by
      have : ((i : Nat) : Int) = (j : Int) := hj
      omega
     subst this
     have h3 : nxt p cy.fSuper i < 0 := by
      unfold whoseR at hi1
      by_cases h1 : (whose p j' cy.fSuper).1 = 1
      ·rw [if_pos h1] at hi1
       simp only [Prod.mk.injEq, DLodRef.mk.injEq] at hi1
       have := whoseF_own hp 4 j' hjl' h1
       have e : (whoseF p cy.fSuper 4 j').2 = i := by have := hi1.1.1; unfold whose at this; omega
       rw [e] at this
       exact this.2.2
      ·rw [if_neg h1] at hi1
       exact absurd (congrArg Prod.snd hi1) h1
     have h4 : whose p i cy.fSuper = (1, i) := by
      unfold whose
      rw [whoseF, if_pos h3, if_neg (by omega)]
     unfold whoseR
     simp only
     rw [h4]
     exact ⟨rfl, rfl⟩
 have hf : lodFind p x.fKeeper x.fName = (x, 1) := by
  rw [hj, lodFind_in hp hjl hname]
  exact findR_of hw.1 hw.2 ht
 refine ⟨namOk_maxLen hname, hf, ?_⟩
 unfold lodChain
 rw [hf]
 simp only [if_true]
 rw [if_pos (refEq_self _), ht]
 rfl

end Go.Proofs.YtmbfpbgkchncgaaGreat
