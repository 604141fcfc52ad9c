/-
  Texts of mine, packed: Plain, LoOf. No condition beside those of the single theorems.
-/
import Derived.Test.YtcdmmnfdnmjnpaaK17
import Derived.Test.YtcdmmnfdnmjnpaaK2
import Derived.Test.YtcdmmnfdnmjnpaaK16
set_option linter.unusedSimpArgs false
set_option linter.unusedVariables false
namespace Go.Proofs.Ytcdmmnfdnmjnpaa
open Go.RowKit
theorem find_first {α : Type} (p : α → Bool) (xs : List α) : xs.find? p = if 0 ≤ firstAt p xs then xs[(firstAt p xs).toNat]? else none := by
  rcases firstAt_cases p xs with ⟨h1, h2⟩ | ⟨k, x, h1, h2, h3, h4⟩
  · rw [if_neg (by omega), List.find?_eq_none]
    intro x hx
    obtain ⟨i, hi⟩ := List.mem_iff_getElem?.1 hx
    simp [h2 i x hi]
  · rw [if_pos (by omega), h1, Int.toNat_natCast, h2]
    obtain ⟨hk, rfl⟩ := List.getElem?_eq_some_iff.1 h2
    rw [List.find?_eq_some_iff_getElem]
    exact ⟨h3, k, hk, rfl, fun j hj => by have := h4 j xs[j] hj (List.getElem?_eq_getElem (by omega)); simpa using this⟩

def loOfP (p : DLodPlan) (r : DLodRef) : DClsClass := if inPlan p r.fKeeper then (match p.fKeepers[r.fKeeper.toNat]? with | some k => (match k.fOwns.find? (fun c => sameN c.fName r.fName) with | some c => c | none => nilCls) | none => nilCls) else nilCls
theorem clsAt_some {p : DLodPlan} {r : DLodRef} {c : DClsClass} (h : clsAt p r = some c) : 0 ≤ r.fKeeper ∧ ∃ k, p.fKeepers[r.fKeeper.toNat]? = some k ∧ 0 ≤ ownAt k.fOwns r.fName ∧ k.fOwns[(ownAt k.fOwns r.fName).toNat]? = some c := by
  unfold clsAt at h
  by_cases h0 : 0 ≤ r.fKeeper
  · rw [if_pos h0] at h
    cases hk : p.fKeepers[r.fKeeper.toNat]? with
    | none => rw [hk] at h; cases h
    | some k =>
      rw [hk] at h
      simp only at h
      by_cases ho : 0 ≤ ownAt k.fOwns r.fName
      · rw [if_pos ho] at h
        exact ⟨h0, k, rfl, ho, h⟩
      · rw [if_neg ho] at h; cases h
  · rw [if_neg h0] at h; cases h
theorem ownAt_name {xs : List DClsClass} {nm : ByteArray} {c : DClsClass} (h0 : 0 ≤ ownAt xs nm) (h : xs[(ownAt xs nm).toNat]? = some c) : c.fName = nm := by
  rcases firstAt_cases (fun c : DClsClass => sameN c.fName nm) xs with ⟨h1, _⟩ | ⟨k, x, h1, h2, h3, _⟩
  · unfold ownAt at h0; rw [h1] at h0; omega
  · unfold ownAt at h
    rw [h1, Int.toNat_natCast, h2] at h
    cases h
    exact sameN_iff.1 h3
theorem loOf_some {p : DLodPlan} {r : DLodRef} {c : DClsClass} (h : clsAt p r = some c) : loOfP p r = c ∧ c.fName = r.fName ∧ ∃ k ∈ p.fKeepers, c ∈ k.fOwns := by
  obtain ⟨h0, k, hk, ho, hc⟩ := clsAt_some h
  refine ⟨?_, ownAt_name ho hc, k, List.mem_of_getElem? hk, List.mem_of_getElem? hc⟩
  unfold loOfP
  have hin : inPlan p r.fKeeper = true := by
    unfold inPlan
    have := (List.getElem?_eq_some_iff.1 hk).1
    simp; omega
  rw [if_pos hin, hk]
  simp only
  rw [find_first]
  show (match (if 0 ≤ ownAt k.fOwns r.fName then k.fOwns[(ownAt k.fOwns r.fName).toNat]? else none) with | some c => c | none => nilCls) = c
  rw [if_pos ho, hc]
theorem loOf_none {p : DLodPlan} {i : Nat} {nm : ByteArray} (h : ownN p nm i < 0) : loOfP p ⟨(i : Int), nm⟩ = nilCls := by
  unfold loOfP
  split
  · simp only [Int.toNat_natCast]
    unfold ownN at h
    cases hk : p.fKeepers[i]? with
    | none => rfl
    | some k =>
      rw [hk] at h
      simp only at h ⊢
      rw [find_first]
      show (match (if 0 ≤ ownAt k.fOwns nm then k.fOwns[(ownAt k.fOwns nm).toNat]? else none) with | some c => c | none => nilCls) = nilCls
      rw [if_neg (by omega)]
  · rfl

theorem chainF_succ {p : DLodPlan} {f : Nat} {r : DLodRef} {rs : List DLodRef} (h : chainF p (f + 1) r = some rs) : ∃ c, clsAt p r = some c ∧ ((c.fSuper.toList.isEmpty = true ∧ rs = [r]) ∨ (c.fSuper.toList.isEmpty = false ∧ (whoseR p r.fKeeper.toNat c.fSuper).2 = 1 ∧ ∃ t, chainF p f (whoseR p r.fKeeper.toNat c.fSuper).1 = some t ∧ rs = r :: t)) := by
  unfold chainF at h
  cases hc : clsAt p r with
  | none => rw [hc] at h; cases h
  | some c =>
    rw [hc] at h
    simp only at h
    refine ⟨c, rfl, ?_⟩
    by_cases hs : c.fSuper.toList.isEmpty = true
    · rw [if_pos hs] at h
      exact Or.inl ⟨hs, (Option.some.inj h).symm⟩
    · rw [if_neg hs] at h
      by_cases hw : (whoseR p r.fKeeper.toNat c.fSuper).2 = 1
      · rw [if_pos hw] at h
        cases e : chainF p f (whoseR p r.fKeeper.toNat c.fSuper).1 with
        | none => rw [e] at h; cases h
        | some t =>
          rw [e] at h
          exact Or.inr ⟨by simpa using hs, hw, t, rfl, (Option.some.inj h).symm⟩
      · rw [if_neg hw] at h; cases h
theorem chainF_head {p : DLodPlan} {f : Nat} {r : DLodRef} {rs : List DLodRef} (h : chainF p f r = some rs) : ∃ t, rs = r :: t := by
  cases f with
  | zero => cases h
  | succ f =>
    obtain ⟨c, _, ⟨_, rfl⟩ | ⟨_, _, t, _, rfl⟩⟩ := chainF_succ h
    · exact ⟨[], rfl⟩
    · exact ⟨t, rfl⟩
theorem chainF_len {p : DLodPlan} : ∀ {f : Nat} {r : DLodRef} {rs : List DLodRef}, chainF p f r = some rs → rs.length ≤ f
  | 0, _, _, h => by cases h
  | f + 1, r, rs, h => by
    obtain ⟨c, _, ⟨_, rfl⟩ | ⟨_, _, t, ht, rfl⟩⟩ := chainF_succ h
    · simp
    · have := chainF_len ht
      simp; omega
theorem chainF_more {p : DLodPlan} : ∀ {f : Nat} {r : DLodRef} {rs : List DLodRef}, chainF p f r = some rs → chainF p (f + 1) r = some rs
  | 0, _, _, h => by cases h
  | f + 1, r, rs, h => by
    obtain ⟨c, hc, ⟨hs, rfl⟩ | ⟨hs, hw, t, ht, rfl⟩⟩ := chainF_succ h
    · rw [chainF, hc]; simp only; rw [if_pos hs]
    · rw [chainF, hc]; simp only; rw [if_neg (by rw [hs]; decide), if_pos hw, chainF_more ht]; rfl
theorem chainF_tail {p : DLodPlan} : ∀ {f : Nat} {r : DLodRef} {rs : List DLodRef}, chainF p f r = some rs → ∀ (k : Nat) (x : DLodRef), rs[k]? = some x → chainF p f x = some (rs.drop k)
  | 0, _, _, h, _, _, _ => by cases h
  | f + 1, r, rs, h, 0, x, hx => by
    obtain ⟨t, rfl⟩ := chainF_head h
    simp at hx; subst hx
    simpa using h
  | f + 1, r, rs, h, k + 1, x, hx => by
    obtain ⟨c, hc, ⟨hs, rfl⟩ | ⟨hs, hw, t, ht, rfl⟩⟩ := chainF_succ h
    · simp at hx
    · have := chainF_tail ht k x (by simpa using hx)
      simpa using chainF_more this
theorem chainF_next {p : DLodPlan} {f : Nat} {r : DLodRef} {rs : List DLodRef} (h : chainF p f r = some rs) {k : Nat} {x : DLodRef} (hx : rs[k]? = some x) :
    ∃ c, clsAt p x = some c ∧ ((c.fSuper.toList.isEmpty = true ∧ rs.length = k + 1) ∨ (c.fSuper.toList.isEmpty = false ∧ (whoseR p x.fKeeper.toNat c.fSuper).2 = 1 ∧ rs[k + 1]? = some (whoseR p x.fKeeper.toNat c.fSuper).1)) := by
  have ht := chainF_tail h k x hx
  have hk := (List.getElem?_eq_some_iff.1 hx).1
  cases f with
  | zero => cases h
  | succ f =>
    obtain ⟨c, hc, ⟨hs, e⟩ | ⟨hs, hw, t, ht2, e⟩⟩ := chainF_succ ht
    · refine ⟨c, hc, Or.inl ⟨hs, ?_⟩⟩
      have : (rs.drop k).length = 1 := by rw [e]; rfl
      rw [List.length_drop] at this
      omega
    · refine ⟨c, hc, Or.inr ⟨hs, hw, ?_⟩⟩
      obtain ⟨t2, rfl⟩ := chainF_head ht2
      have : (rs.drop k)[1]? = some (whoseR p x.fKeeper.toNat c.fSuper).1 := by rw [e]; rfl
      rwa [List.getElem?_drop] at this
theorem chainF_once {p : DLodPlan} {f : Nat} {r : DLodRef} {rs : List DLodRef} (h : chainF p f r = some rs) {i j : Nat} {x : DLodRef} (hi : rs[i]? = some x) (hj : rs[j]? = some x) : i = j := by
  have h1 := chainF_tail h i x hi
  have h2 := chainF_tail h j x hj
  rw [h1] at h2
  have h3 : (rs.drop i).length = (rs.drop j).length := by rw [Option.some.inj h2]
  have h4 := (List.getElem?_eq_some_iff.1 hi).1
  have h5 := (List.getElem?_eq_some_iff.1 hj).1
  rw [List.length_drop, List.length_drop] at h3
  omega

theorem clsAt_clsOk {p : DLodPlan} (hp : lodOk p = true) {r : DLodRef} {c : DClsClass} (h : clsAt p r = some c) : clsOk c = true := by
  obtain ⟨_, k, hk, _, hc⟩ := clsAt_some h
  obtain ⟨_, _, ho, _⟩ := keeperOk_parts (lodOk_keeper hp hk)
  have := each_iff.1 ho _ c hc
  simp only [ownIn, Bool.and_eq_true] at this
  exact this.1
theorem clsOk_super {c : DClsClass} (h : clsOk c = true) (hs : c.fSuper.toList.isEmpty = false) : namOk c.fSuper = true := by
  unfold clsOk at h
  simp only [Bool.and_eq_true, Bool.or_eq_true] at h
  rcases h.1.1.1.1.2 with h2 | h2
  · rw [hs] at h2; cases h2
  · exact h2
theorem namOk_short {n : ByteArray} (h : namOk n = true) : n.size ≤ 6 := by
  unfold namOk at h
  simp only [Bool.and_eq_true, decide_eq_true_eq] at h
  exact h.1.2
theorem namOk_maxLen {n : ByteArray} (h : namOk n = true) : n.size ≤ maxLen := by have := namOk_short h; unfold maxLen; omega
theorem clsAt_in {p : DLodPlan} {r : DLodRef} {c : DClsClass} (h : clsAt p r = some c) : ∃ j : Nat, r.fKeeper = (j : Int) ∧ j < p.fKeepers.length := by
  obtain ⟨h0, k, hk, _⟩ := clsAt_some h
  exact ⟨r.fKeeper.toNat, by omega, (List.getElem?_eq_some_iff.1 hk).1⟩
theorem lodFind_in {p : DLodPlan} (hp : lodOk p = true) {i : Nat} (hi : i < p.fKeepers.length) {nm : ByteArray} (hn : namOk nm = true) : lodFind p (i : Int) nm = findR p i nm := by
  unfold lodFind
  have hin : inPlan p (i : Int) = true := by unfold inPlan; simp; omega
  rw [hp, hin, hn]
  simp
theorem findR_of {p : DLodPlan} {i : Nat} {nm : ByteArray} {y : DLodRef} {t : List DLodRef} (hw : (whoseR p i nm).2 = 1) (he : (whoseR p i nm).1 = y) (ht : chainR p y = some t) : findR p i nm = (y, 1) := by
  unfold findR
  rw [if_pos hw, he, ht]
  simp only [Option.isSome_some, if_true]
  rw [← he, ← hw]

theorem plain_find (p : DLodPlan) (k : Int) (nm : ByteArray) : ((lodFind p k nm).2 = 1 → lodFind p (lodFind p k nm).1.fKeeper (lodFind p k nm).1.fName = lodFind p k nm ∧ (lodFind p k nm).1.fName = nm ∧ (loOfP p (lodFind p k nm).1).fName = nm) ∧
    ((lodFind p k nm).2 ≠ 1 → (lodFind p k nm).1 = noRef ∧ 2 ≤ (lodFind p k nm).2 ∧ (lodFind p k nm).2 ≤ 4) := by
  by_cases h1 : (lodOk p && inPlan p k && namOk nm) = true
  · have h1' := h1
    simp only [Bool.and_eq_true] at h1'
    obtain ⟨⟨hp, hin⟩, hn⟩ := h1'
    unfold inPlan at hin
    simp only [Bool.and_eq_true, decide_eq_true_eq] at hin
    have hk : lodFind p k nm = findR p k.toNat nm := by unfold lodFind; rw [if_pos h1]
    constructor
    · intro hc
      rw [hk] at hc
      obtain ⟨j, rs, he, ht, hr, hf, _⟩ := findR_again hp (i := k.toNat) (by omega) (namOk_maxLen hn) hc
      rw [hk, he]
      refine ⟨hf, rfl, ?_⟩
      obtain ⟨c, hc⟩ := ht.cls
      obtain ⟨h2, h3, _⟩ := loOf_some hc
      rw [h2, h3]
    · intro hc
      rw [hk] at hc ⊢
      unfold findR at hc ⊢
      by_cases hw : (whoseR p k.toNat nm).2 = 1
      · rw [if_pos hw] at hc ⊢
        cases e : (chainR p (whoseR p k.toNat nm).1).isSome
        · simp
        · rw [e] at hc; simp [hw] at hc
      · rw [if_neg hw]
        refine ⟨rfl, ?_⟩
        unfold whoseR at hw ⊢
        by_cases h2 : (whose p k.toNat nm).1 = 1
        · rw [if_pos h2] at hw; exact absurd rfl hw
        · rw [if_neg h2]
          rcases whoseF_code p nm 4 k.toNat with h3 | h3 | h3
          · exact absurd h3 h2
          · show 2 ≤ (whose p k.toNat nm).1 ∧ (whose p k.toNat nm).1 ≤ 4
            unfold whose; omega
          · show 2 ≤ (whose p k.toNat nm).1 ∧ (whose p k.toNat nm).1 ≤ 4
            unfold whose; omega
  · have hk : lodFind p k nm = (noRef, 2) := by unfold lodFind; rw [if_neg h1]
    rw [hk]
    exact ⟨fun h => absurd h (by decide), fun _ => ⟨rfl, by decide, by decide⟩⟩

theorem whoseF_stop {p : DLodPlan} {nm : ByteArray} : ∀ f i, whoseF p nm f i ≠ (3, 0) → whoseF p nm (f + 1) i = whoseF p nm f i
  | 0, i, h => absurd rfl h
  | f + 1, i, h => by
    by_cases h1 : nxt p nm i < 0
    · simp only [whoseF, if_pos h1]
    · have h' : whoseF p nm f (nxt p nm i).toNat ≠ (3, 0) := by
        rw [whoseF, if_neg h1] at h; exact h
      have e1 : whoseF p nm (f + 1 + 1) i = whoseF p nm (f + 1) (nxt p nm i).toNat := by rw [whoseF, if_neg h1]
      have e2 : whoseF p nm (f + 1) i = whoseF p nm f (nxt p nm i).toNat := by rw [whoseF, if_neg h1]
      exact e1.trans ((whoseF_stop f _ h').trans e2.symm)
theorem whose_step {p : DLodPlan} (hp : lodOk p = true) {nm : ByteArray} {i : Nat} (hi : i < p.fKeepers.length) (hn : 0 ≤ nxt p nm i) : whose p i nm = whose p (nxt p nm i).toNat nm := by
  have hl := lodOk_len hp
  have e : whose p i nm = whoseF p nm 3 (nxt p nm i).toNat := by
    unfold whose
    rw [whoseF, if_neg (by omega)]
  rw [e]
  by_cases h3 : whoseF p nm 3 (nxt p nm i).toNat = (3, 0)
  · obtain ⟨a, ha⟩ : ∃ a, (nxt p nm i).toNat = a := ⟨_, rfl⟩
    rw [ha] at h3 ⊢
    have la : a < p.fKeepers.length := by have := nxt_lt hp nm i; omega
    have n1 : 0 ≤ nxt p nm a := by
      by_cases h : nxt p nm a < 0
      · rw [whoseF, if_pos h] at h3; split at h3 <;> simp at h3
      · omega
    rw [whoseF, if_neg (by omega)] at h3
    obtain ⟨b, hb⟩ : ∃ b, (nxt p nm a).toNat = b := ⟨_, rfl⟩
    rw [hb] at h3
    have lb : b < p.fKeepers.length := by have := nxt_lt hp nm a; omega
    have n2 : 0 ≤ nxt p nm b := by
      by_cases h : nxt p nm b < 0
      · rw [whoseF, if_pos h] at h3; split at h3 <;> simp at h3
      · omega
    rw [whoseF, if_neg (by omega)] at h3
    obtain ⟨c, hc⟩ : ∃ c, (nxt p nm b).toNat = c := ⟨_, rfl⟩
    rw [hc] at h3
    have lc : c < p.fKeepers.length := by have := nxt_lt hp nm b; omega
    have n3 : 0 ≤ nxt p nm c := by
      by_cases h : nxt p nm c < 0
      · rw [whoseF, if_pos h] at h3; split at h3 <;> simp at h3
      · omega
    obtain ⟨d, hd⟩ : ∃ d, (nxt p nm c).toNat = d := ⟨_, rfl⟩
    have ld : d < p.fKeepers.length := by have := nxt_lt hp nm c; omega
    have hmem : d = a ∨ d = b ∨ d = c := by
      by_cases hab : a = b
      · rw [← hab] at hc
        have hca : c = a := by omega
        rw [hca] at hd
        omega
      · by_cases hac : a = c
        · rw [← hac] at hd
          omega
        · by_cases hbc : b = c
          · rw [← hbc] at hd
            omega
          · omega
    have hS : ∀ s ∈ [a, b, c], 0 ≤ nxt p nm s ∧ (nxt p nm s).toNat ∈ [a, b, c] := fun s hs => by
      simp only [List.mem_cons, List.not_mem_nil, or_false] at hs ⊢
      rcases hs with h | h | h
      · rw [h]; exact ⟨n1, Or.inr (Or.inl hb)⟩
      · rw [h]; exact ⟨n2, Or.inr (Or.inr hc)⟩
      · rw [h, hd]; exact ⟨n3, hmem⟩
    rw [ring_none (S := [a, b, c]) hS 3 a (by simp)]
    exact (ring_none (S := [a, b, c]) hS 4 a (by simp)).symm
  · exact (whoseF_stop 3 _ h3).symm

theorem plain_ask {p : DLodPlan} (hp : lodOk p = true) {i : Nat} {nm : ByteArray} (hi : i < p.fKeepers.length) (hn : namOk nm = true) :
    (0 ≤ nxt p nm i → lodFind p (i : Int) nm = lodFind p (nxt p nm i) nm) ∧
    (nxt p nm i < 0 → ((lodFind p (i : Int) nm).2 = 1 → (lodFind p (i : Int) nm).1.fKeeper = (i : Int)) ∧ ((lodFind p (i : Int) nm).2 ≠ 1 → ((lodFind p (i : Int) nm).2 = 2 ∧ (loOfP p ⟨(i : Int), nm⟩).fName.toList.isEmpty = true) ∨ (lodFind p (i : Int) nm).2 = 4)) := by
  rw [lodFind_in hp hi hn]
  constructor
  · intro h
    have hj : (nxt p nm i).toNat < p.fKeepers.length := by have := nxt_lt hp nm i; omega
    have e : nxt p nm i = (((nxt p nm i).toNat : Nat) : Int) := by omega
    rw [e, lodFind_in hp hj hn]
    unfold findR whoseR
    rw [whose_step hp hi h]
  · intro h
    have hw : whose p i nm = if ownN p nm i < 0 then (2, 0) else (1, i) := by
      unfold whose
      rw [whoseF, if_pos h]
    by_cases ho : ownN p nm i < 0
    · rw [if_pos ho] at hw
      have hf : findR p i nm = (noRef, 2) := by
        unfold findR whoseR
        rw [hw]
        simp
      rw [hf]
      refine ⟨fun h => absurd h (by decide), fun _ => Or.inl ⟨rfl, ?_⟩⟩
      rw [loOf_none ho]
      show (ByteArray.empty).toList.isEmpty = true
      simp
    · rw [if_neg ho] at hw
      unfold findR whoseR
      rw [hw]
      simp only [if_true]
      cases e : (chainR p ⟨(i : Int), nm⟩).isSome
      · simp
      · simp

theorem plain_chain {p : DLodPlan} {r : DLodRef} (hn : r.fName.size ≤ maxLen) (h : lodChain p r ≠ []) : lodOk p = true ∧ chainR p r = some (lodChain p r) ∧ lodFind p r.fKeeper r.fName = (r, 1) := by
  unfold lodChain at h
  by_cases h1 : (lodFind p r.fKeeper r.fName).2 = 1
  · rw [if_pos h1] at h
    by_cases h2 : refEq (lodFind p r.fKeeper r.fName).1 r = true
    · obtain ⟨ht, rs, hr, hc⟩ := lodChain_there hn h1 h2
      exact ⟨(lodFind_there hn h1).1, by rw [hc, hr], Prod.ext (refEq_iff.1 h2) h1⟩
    · rw [if_neg h2] at h; exact absurd rfl h
  · rw [if_neg h1] at h; exact absurd rfl h
theorem plain_chain_none {p : DLodPlan} {r : DLodRef} (hn : r.fName.size ≤ maxLen) : lodChain p r = [] ↔ ¬ ((lodFind p r.fKeeper r.fName).2 = 1 ∧ (lodFind p r.fKeeper r.fName).1 = r) := by
  constructor
  · intro h ⟨h1, h2⟩
    obtain ⟨ht, rs, hr, hc⟩ := lodChain_there hn h1 (refEq_iff.2 h2)
    obtain ⟨t, rfl⟩ := chainF_head hr
    rw [hc] at h
    cases h
  · intro h
    unfold lodChain
    by_cases h1 : (lodFind p r.fKeeper r.fName).2 = 1
    · rw [if_pos h1]
      by_cases h2 : refEq (lodFind p r.fKeeper r.fName).1 r = true
      · exact absurd ⟨h1, refEq_iff.1 h2⟩ h
      · rw [if_neg h2]
    · rw [if_neg h1]
theorem plain_tail {p : DLodPlan} {r : DLodRef} (hn : r.fName.size ≤ maxLen) {k : Nat} {x : DLodRef} (hx : (lodChain p r)[k]? = some x) : x.fName.size ≤ maxLen ∧ lodFind p x.fKeeper x.fName = (x, 1) ∧ lodChain p x = (lodChain p r).drop k := by
  have hne : lodChain p r ≠ [] := by intro e; rw [e] at hx; simp at hx
  obtain ⟨hp, hr, _⟩ := plain_chain hn hne
  have ht : chainR p x = some ((lodChain p r).drop k) := chainF_tail hr k x hx
  obtain ⟨c, hc, _⟩ := chainF_next hr hx
  obtain ⟨hl, hnm, _⟩ := loOf_some hc
  have hok := clsAt_clsOk hp hc
  have hname : namOk x.fName = true := by
    unfold clsOk at hok
    simp only [Bool.and_eq_true] at hok
    rw [← hnm]
    exact hok.1.1.1.1.1
  obtain ⟨j, hj, hjl⟩ := clsAt_in hc
  have hw : (whoseR p j x.fName).2 = 1 ∧ (whoseR p j x.fName).1 = x := by
    cases k with
    | zero =>
      obtain ⟨t, ht0⟩ := chainF_head hr
      rw [ht0] at hx
      simp at hx
      subst hx
      obtain ⟨_, _, hf⟩ := plain_chain hn hne
      rw [hj, lodFind_in hp hjl hname] at hf
      unfold findR at hf
      by_cases h1 : (whoseR p j r.fName).2 = 1
      · rw [if_pos h1] at hf
        split at hf
        · rw [hf]; exact ⟨rfl, rfl⟩
        · simp at hf
      · rw [if_neg h1] at hf
        exact absurd (congrArg Prod.snd hf) h1
    | succ k =>
      obtain ⟨y, hy⟩ : ∃ y, (lodChain p r)[k]? = some y := ⟨_, List.getElem?_eq_getElem (by have := (List.getElem?_eq_some_iff.1 hx).1; omega)⟩
      obtain ⟨cy, hcy, ⟨_, he⟩ | ⟨_, hw, he⟩⟩ := chainF_next hr hy
      · have := (List.getElem?_eq_some_iff.1 hx).1; omega
      · rw [hx] at he
        have he := (Option.some.inj he).symm
        obtain ⟨j', hj', hjl'⟩ := clsAt_in hcy
        rw [hj', Int.toNat_natCast] at hw he
        obtain ⟨i, hi1, hi2, hi3⟩ := whoseR_there hp hjl' hw
        rw [hi1] at he
        subst he
        have : i = j := by
          have : ((i : Nat) : Int) = (j : Int) := hj
          omega
        subst this
        have h3 : nxt p cy.fSuper i < 0 := by
          unfold whoseR at hi1
          by_cases h1 : (whose p j' cy.fSuper).1 = 1
          · rw [if_pos h1] at hi1
            simp only [Prod.mk.injEq, DLodRef.mk.injEq] at hi1
            have := whoseF_own hp 4 j' hjl' h1
            have e : (whoseF p cy.fSuper 4 j').2 = i := by have := hi1.1.1; unfold whose at this; omega
            rw [e] at this
            exact this.2.2
          · rw [if_neg h1] at hi1
            exact absurd (congrArg Prod.snd hi1) h1
        have h4 : whose p i cy.fSuper = (1, i) := by
          unfold whose
          rw [whoseF, if_pos h3, if_neg (by omega)]
        unfold whoseR
        simp only
        rw [h4]
        exact ⟨rfl, rfl⟩
  have hf : lodFind p x.fKeeper x.fName = (x, 1) := by
    rw [hj, lodFind_in hp hjl hname]
    exact findR_of hw.1 hw.2 ht
  refine ⟨namOk_maxLen hname, hf, ?_⟩
  unfold lodChain
  rw [hf]
  simp only [if_true]
  rw [if_pos (refEq_self _), ht]
  rfl

theorem Below.drewN {B : Nat} {a w : World} (h : Below B a w) (q : Nat) : Below B a (w.drewN q) := ⟨h.os, h.tape, h.output, h.size, h.block⟩

set_option maxHeartbeats 400000 in
theorem L_loOk' (w : World) : Calls Try.prog 18 #[] w fun e w' => e = .returned (.bool true) ∧ Below w.heap.size w w' := by
  refine calls_hide fun R HR => ?_
  go_enter Try.func18, Try.ntmps18
  go_wp2_with (go_at_call 53; refine (I_NamOk _ _ (by decide)).mono ?_; rintro _ _ ⟨rfl, rfl⟩)
  all_goals (try go_returns)
  all_goals exact HR.out _ _ ⟨rfl, bbel⟩

def NamV (c : DClsClass) (v : Value) : Prop := ∃ (a1 : Option Addr) (l1 c1 : Nat) (a2 : Option Addr) (l2 c2 : Nat), v = .agg #[.string c.fName, .string c.fSuper, .slice a1 l1 c1, .slice a2 l2 c2]

theorem loOf_hit {p : DLodPlan} {i : Nat} {k : DLodKeeper} {nm : ByteArray} {j : Nat} {c : DClsClass} (hk : p.fKeepers[i]? = some k) (h : EachTo (nots fun c => sameN c.fName nm) k.fOwns j = true) (hc : k.fOwns[j]? = some c) (hs : sameN c.fName nm = true) : loOfP p ⟨(i : Int), nm⟩ = c := by
  have hi := (List.getElem?_eq_some_iff.1 hk).1
  unfold loOfP
  rw [if_pos (by unfold inPlan; simp; omega)]
  simp only [Int.toNat_natCast, hk]
  rw [find_first, firstAt_hit' h hc hs]
  rw [if_pos (by omega), Int.toNat_natCast, hc]
theorem loOf_miss {p : DLodPlan} {i : Nat} {k : DLodKeeper} {nm : ByteArray} {j : Nat} (hk : p.fKeepers[i]? = some k) (h : EachTo (nots fun c => sameN c.fName nm) k.fOwns j = true) (hl : k.fOwns.length = j) : loOfP p ⟨(i : Int), nm⟩ = nilCls := by
  have hi := (List.getElem?_eq_some_iff.1 hk).1
  unfold loOfP
  rw [if_pos (by unfold inPlan; simp; omega)]
  simp only [Int.toNat_natCast, hk]
  rw [find_first, firstAt_none' h hl]
  rw [if_neg (by omega)]
theorem loOf_out {p : DLodPlan} {r : DLodRef} (h : inPlan p r.fKeeper = false) : loOfP p r = nilCls := by
  unfold loOfP; rw [h]; rfl

def LoOf (p : DLodPlan) (v1 : Value) (r : DLodRef) (w : World) : Prop := ∃ v, NamV (loOfP p r) v ∧ ∀ W, Below w.heap.size w W → Calls Try.prog 31 #[.agg #[v1], .agg #[.int .i64 r.fKeeper, .string r.fName]] W fun e w' => e = .returned v ∧ Below W.heap.size W w'

theorem L_loOf_far (p : DLodPlan) (a : Option Addr) (len cap : Nat) (rk : Int) (rn : ByteArray) (w : World) (m1 : len ≤ 9223372036854775807) (h : rk < 0 ∨ (len : Int) ≤ rk) : Calls Try.prog 31 #[.agg #[.slice a len cap], .agg #[.int .i64 rk, .string rn]] w fun e w' => e = .returned (.agg #[.string ⟨#[]⟩, .string ⟨#[]⟩, .slice none 0 0, .slice none 0 0]) ∧ Below w.heap.size w w' := by
  by_cases k0 : rk < 0
  · clear h
    refine calls_hide fun R HR => ?_
    go_enter Try.func31, Try.ntmps31
    go_wp2
    all_goals
      refine bodyPost_ret (v := ?_) ?hrun rfl ?_
      case hrun => (simp only [results, Try.results31]; go_simp; first | done | exact rfl)
      exact HR.out _ _ ⟨rfl, bbel⟩
  · have hi2 : (len : Int) ≤ rk := by omega
    clear h
    refine calls_hide fun R HR => ?_
    go_enter Try.func31, Try.ntmps31
    go_wp2
    all_goals
      refine bodyPost_ret (v := ?_) ?hrun rfl ?_
      case hrun => (simp only [results, Try.results31]; go_simp; first | done | exact rfl)
      exact HR.out _ _ ⟨rfl, bbel⟩

set_option maxRecDepth 100000 in
set_option maxHeartbeats 8000000 in
theorem L_loOf (p : DLodPlan) (v1 : Value) (r : DLodRef) (w0 : World) (s1 : Sl 2 rLodKeeper 0 w0 v1 p.fKeepers) : LoOf p v1 r w0 := by
  obtain ⟨a, len, cap, rfl, hl, h1, h2, h3⟩ := id s1
  have m1 : len ≤ 9223372036854775807 := by unfold maxLen at h2; omega
  obtain ⟨rk, rn⟩ := r
  have HL := Lib.hid hl
  clear h2 hl h1
  by_cases k0 : rk < 0 ∨ (len : Int) ≤ rk
  · exact ⟨_, by rw [show loOfP p ⟨rk, rn⟩ = nilCls from loOf_out (by unfold inPlan; rw [HL.out]; simp; omega)]; exact ⟨_, _, _, _, _, _, rfl⟩, fun W hW => L_loOf_far p a len cap rk rn W m1 k0⟩
  obtain ⟨i, rfl⟩ : ∃ i : Nat, rk = (i : Int) := ⟨rk.toNat, by omega⟩
  have hi : i < len := by omega
  have hi2 : (i : Int) < (len : Int) := by omega
  clear k0
  obtain ⟨b, off, rfl, hlo, hbl, hr⟩ := h3 (by omega)
  obtain ⟨k, cs, e0, e1, e2, e3⟩ := hr i hi
  obtain ⟨x1, x2, rfl, t1, t2⟩ := e3
  obtain ⟨xa2, xl2, xc2, rfl⟩ := t2.form
  obtain ⟨ya, yl, yc, rfl, yh, yc1, yc2, y3⟩ := id t1
  have my : yl ≤ 9223372036854775807 := by unfold maxLen at yc2; omega
  have q1 : w0.cell? ⟨b, off + i * 2, none⟩ = some (.slice ya yl yc) := e2 0 _ rfl
  have q2 : w0.cell? ⟨b, off + i * 2 + 1, none⟩ = some (.slice xa2 xl2 xc2) := e2 1 _ rfl
  have E0 := Lib.hid e0
  have YH := Lib.hid yh
  clear e0 e1 e2 hr yh yc1 yc2 t2 t1 s1 h3
  rcases firstAt_cases (fun c : DClsClass => sameN c.fName rn) k.fOwns with ⟨hno, hall⟩ | ⟨z, c, hz, hc, hs, hbef⟩
  · have hE : EachTo (nots fun c : DClsClass => sameN c.fName rn) k.fOwns yl = true := EachTo.mk fun j x hj hx => by simp [nots, hall j x hx]
    refine ⟨.agg #[.string ⟨#[]⟩, .string ⟨#[]⟩, .slice none 0 0, .slice none 0 0], by rw [loOf_miss E0.out hE YH.out]; exact ⟨_, _, _, _, _, _, rfl⟩, fun w hW => ?_⟩
    have HALL := Lib.hid hall
    clear hall hno hE
    replace q1 := keep_cell hW q1
    replace q2 := keep_cell hW q2
    have hblw : b < w.heap.size := Nat.lt_of_lt_of_le hbl hW.size
    refine calls_hide fun R HR => ?_
    go_enter Try.func31, Try.ntmps31
    go_wp2_with fail
    obtain ⟨wE, hwE⟩ : ∃ wE, wE = ((w.alloc (.cells #[.slice (some ⟨b, off, none⟩) len cap] 48)).alloc (.cells #[.int .i64 (i : Int), .string rn] 60)).alloc (.cells #[.string ⟨#[]⟩, .string ⟨#[]⟩, .slice none 0 0, .slice none 0 0] 37) := ⟨_, rfl⟩
    rw [← hwE]
    have hBE : Below w.heap.size w wE := by rw [hwE]; exact bbel
    have c0 : wE.cell? ⟨w.heap.size, 0, none⟩ = some (.slice (some ⟨b, off, none⟩) len cap) := by rw [hwE]; go_simp
    have c1 : wE.cell? ⟨w.heap.size + 1, 0, none⟩ = some (.int .i64 (i : Int)) := by rw [hwE]; go_simp
    have c2 : wE.cell? ⟨w.heap.size + 1, 1, none⟩ = some (.string rn) := by rw [hwE]; go_simp
    have r0 : wE.cell? ⟨w.heap.size + 1 + 1, 0, none⟩ = some (.string ⟨#[]⟩) := by rw [hwE]; go_simp
    have r1 : wE.cell? ⟨w.heap.size + 1 + 1, 1, none⟩ = some (.string ⟨#[]⟩) := by rw [hwE]; go_simp
    have r2 : wE.cell? ⟨w.heap.size + 1 + 1, 2, none⟩ = some (.slice none 0 0) := by rw [hwE]; go_simp
    have r3 : wE.cell? ⟨w.heap.size + 1 + 1, 3, none⟩ = some (.slice none 0 0) := by rw [hwE]; go_simp
    have f0 : wE.frozen? ⟨w.heap.size + 1 + 1, 0, none⟩ = false := by rw [hwE]; go_simp
    have f1 : wE.frozen? ⟨w.heap.size + 1 + 1, 1, none⟩ = false := by rw [hwE]; go_simp
    have f2 : wE.frozen? ⟨w.heap.size + 1 + 1, 2, none⟩ = false := by rw [hwE]; go_simp
    have f3 : wE.frozen? ⟨w.heap.size + 1 + 1, 3, none⟩ = false := by rw [hwE]; go_simp
    have hsE : wE.heap.size = w.heap.size + 1 + 1 + 1 := by rw [hwE]; simp
    clear hwE
    go_loopw [5] (fun z wr => ∃ j : Nat, j ≤ yl ∧ z = .int .i64 j ∧ Below wE.heap.size wE wr) (fun z _ => yl - (intOf z).toNat)
    case atStart => exact ⟨0, Nat.zero_le _, rfl, by (repeat' (first | (with_reducible exact Below.refl _ _) | (with_reducible refine Below.drewN ?_ _) | (with_reducible refine Below.alloc ?_ ?_ _) | (with_reducible refine Below.setCell ?_ ?_ _) | (with_reducible refine Below.drew ?_) | (refine below_hyp (by assumption) ?_ ?_) | go_size))⟩
    case round =>
      obtain ⟨j, hj, rfl, hb⟩ := hrel
      have hsE2 : w.heap.size + 3 ≤ wr.heap.size := by have := hb.size; omega
      have F0 := keep_frozen hb r0 f0
      have F1 := keep_frozen hb r1 f1
      have F2 := keep_frozen hb r2 f2
      have F3 := keep_frozen hb r3 f3
      have C0 := keep_cell hb c0
      have C1 := keep_cell hb c1
      have C2 := keep_cell hb c2
      have R0 := keep_cell hb r0
      have R1 := keep_cell hb r1
      have R2 := keep_cell hb r2
      have R3 := keep_cell hb r3
      have hbw := hBE.trans (hb.mono hBE.size)
      have q1r : wr.cell? ⟨b, off + i * 2, none⟩ = some (.slice ya yl yc) := keep_cell hbw q1
      have q2r : wr.cell? ⟨b, off + i * 2 + 1, none⟩ = some (.slice xa2 xl2 xc2) := keep_cell hbw q2
      by_cases hlt : j < yl
      · obtain ⟨b', off', rfl, _, hbl', hr'⟩ := y3 (by omega)
        obtain ⟨c', cs', g0, g1, g2, g3⟩ := hr' j hlt
        obtain ⟨u1, u2, rfl, d1, d2, bx1, bx2⟩ := g3
        have p1 : wr.cell? ⟨b', off' + j * 4, none⟩ = some (.string c'.fName) := keep_cell hbw (keep_cell hW (g2 0 _ rfl))
        have hws := hW.size
        have hbl2 : b' < wr.heap.size := by omega
        have hx2 : (c'.fName.toList == rn.toList) = false := HALL.out j c' g0
        clear g0 g1 g2 hr' d1 d2
        have hjl : (j : Int) < (yl : Int) := by omega
        go_wp2_with fail
        go_quiet (fail)
        go_wp2
        go_roundw
        case measure => simp [intOf]; omega
        case rel => exact ⟨j + 1, by omega, by go_num, Below.drewN hb _⟩
      · obtain rfl : j = yl := by omega
        go_wp2
        all_goals
          refine bodyPost_ret (v := ?_) ?hrun rfl ?_
          case hrun => (simp only [results, Try.results31]; go_simp; first | done | exact rfl)
          exact HR.out _ _ ⟨rfl, by (repeat' (first | (with_reducible exact Below.refl _ _) | (with_reducible refine Below.drewN ?_ _) | (with_reducible refine Below.alloc ?_ ?_ _) | (with_reducible refine Below.setCell ?_ ?_ _) | (with_reducible refine Below.drew ?_) | (refine below_hyp (by assumption) ?_ ?_) | go_size))⟩
  · have hE : EachTo (nots fun c : DClsClass => sameN c.fName rn) k.fOwns z = true := EachTo.mk fun j x hj hx => by simp [nots, hbef j x hj hx]
    have hzl : z < yl := by have := (List.getElem?_eq_some_iff.1 hc).1; have := YH.out; omega
    obtain ⟨b', off', rfl, _, hbl', hr'⟩ := y3 (by omega)
    obtain ⟨c', cs', g0, g1, g2, g3⟩ := hr' z hzl
    obtain rfl : c = c' := Option.some.inj (hc.symm.trans g0)
    obtain ⟨u1, u2, rfl, d1, d2, bx1, bx2⟩ := g3
    obtain ⟨za1, zl1, zc1, rfl⟩ := d1.form
    obtain ⟨za2, zl2, zc2, rfl⟩ := d2.form
    refine ⟨.agg #[.string c.fName, .string c.fSuper, .slice za1 zl1 zc1, .slice za2 zl2 zc2], by rw [loOf_hit E0.out hE hc hs]; exact ⟨_, _, _, _, _, _, rfl⟩, fun w hW => ?_⟩
    have HB := Lib.hid hbef
    have hws := hW.size
    replace q1 := keep_cell hW q1
    replace q2 := keep_cell hW q2
    have q3 := keep_cell hW (show w0.cell? ⟨b', off' + z * 4, none⟩ = some (.string c.fName) from g2 0 _ rfl)
    have q4 := keep_cell hW (show w0.cell? ⟨b', off' + z * 4 + 1, none⟩ = some (.string c.fSuper) from g2 1 _ rfl)
    have q5 := keep_cell hW (show w0.cell? ⟨b', off' + z * 4 + 2, none⟩ = some (.slice za1 zl1 zc1) from g2 2 _ rfl)
    have q6 := keep_cell hW (show w0.cell? ⟨b', off' + z * 4 + 3, none⟩ = some (.slice za2 zl2 zc2) from g2 3 _ rfl)
    have hblw : b < w.heap.size := Nat.lt_of_lt_of_le hbl hW.size
    have hblw' : b' < w.heap.size := Nat.lt_of_lt_of_le hbl' hW.size
    have hs2 : (c.fName.toList == rn.toList) = true := hs
    clear g0 g1 g2 d1 d2 hbef hz hc hs hE
    refine calls_hide fun R HR => ?_
    go_enter Try.func31, Try.ntmps31
    go_wp2_with fail
    obtain ⟨wE, hwE⟩ : ∃ wE, wE = ((w.alloc (.cells #[.slice (some ⟨b, off, none⟩) len cap] 48)).alloc (.cells #[.int .i64 (i : Int), .string rn] 60)).alloc (.cells #[.string ⟨#[]⟩, .string ⟨#[]⟩, .slice none 0 0, .slice none 0 0] 37) := ⟨_, rfl⟩
    rw [← hwE]
    have hBE : Below w.heap.size w wE := by rw [hwE]; exact bbel
    have c0 : wE.cell? ⟨w.heap.size, 0, none⟩ = some (.slice (some ⟨b, off, none⟩) len cap) := by rw [hwE]; go_simp
    have c1 : wE.cell? ⟨w.heap.size + 1, 0, none⟩ = some (.int .i64 (i : Int)) := by rw [hwE]; go_simp
    have c2 : wE.cell? ⟨w.heap.size + 1, 1, none⟩ = some (.string rn) := by rw [hwE]; go_simp
    have r0 : wE.cell? ⟨w.heap.size + 1 + 1, 0, none⟩ = some (.string ⟨#[]⟩) := by rw [hwE]; go_simp
    have r1 : wE.cell? ⟨w.heap.size + 1 + 1, 1, none⟩ = some (.string ⟨#[]⟩) := by rw [hwE]; go_simp
    have r2 : wE.cell? ⟨w.heap.size + 1 + 1, 2, none⟩ = some (.slice none 0 0) := by rw [hwE]; go_simp
    have r3 : wE.cell? ⟨w.heap.size + 1 + 1, 3, none⟩ = some (.slice none 0 0) := by rw [hwE]; go_simp
    have f0 : wE.frozen? ⟨w.heap.size + 1 + 1, 0, none⟩ = false := by rw [hwE]; go_simp
    have f1 : wE.frozen? ⟨w.heap.size + 1 + 1, 1, none⟩ = false := by rw [hwE]; go_simp
    have f2 : wE.frozen? ⟨w.heap.size + 1 + 1, 2, none⟩ = false := by rw [hwE]; go_simp
    have f3 : wE.frozen? ⟨w.heap.size + 1 + 1, 3, none⟩ = false := by rw [hwE]; go_simp
    have hsE : wE.heap.size = w.heap.size + 1 + 1 + 1 := by rw [hwE]; simp
    clear hwE
    go_loopw [5] (fun y wr => ∃ j : Nat, j ≤ z ∧ y = .int .i64 j ∧ Below wE.heap.size wE wr) (fun z _ => yl - (intOf z).toNat)
    case atStart => exact ⟨0, Nat.zero_le _, rfl, by (repeat' (first | (with_reducible exact Below.refl _ _) | (with_reducible refine Below.drewN ?_ _) | (with_reducible refine Below.alloc ?_ ?_ _) | (with_reducible refine Below.setCell ?_ ?_ _) | (with_reducible refine Below.drew ?_) | (refine below_hyp (by assumption) ?_ ?_) | go_size))⟩
    case round =>
      obtain ⟨j, hj, rfl, hb⟩ := hrel
      have hsE2 : w.heap.size + 3 ≤ wr.heap.size := by have := hb.size; omega
      have F0 := keep_frozen hb r0 f0
      have F1 := keep_frozen hb r1 f1
      have F2 := keep_frozen hb r2 f2
      have F3 := keep_frozen hb r3 f3
      have C0 := keep_cell hb c0
      have C1 := keep_cell hb c1
      have C2 := keep_cell hb c2
      have R0 := keep_cell hb r0
      have R1 := keep_cell hb r1
      have R2 := keep_cell hb r2
      have R3 := keep_cell hb r3
      have hbw := hBE.trans (hb.mono hBE.size)
      have q1r := keep_cell hbw q1
      have q2r := keep_cell hbw q2
      have hbl2 : b' < wr.heap.size := by omega
      have hjy : j < yl := by omega
      by_cases hlt : j < z
      · obtain ⟨c', cs', g0, g1, g2, g3⟩ := hr' j (by omega)
        obtain ⟨u1, u2, rfl, d1, d2, bx1, bx2⟩ := g3
        have p1 : wr.cell? ⟨b', off' + j * 4, none⟩ = some (.string c'.fName) := keep_cell hbw (keep_cell hW (g2 0 _ rfl))
        have hx2 : (c'.fName.toList == rn.toList) = false := HB.out j c' hlt g0
        clear g0 g1 g2 d1 d2 q3 q4 q5 q6
        have hjl : (j : Int) < (yl : Int) := by omega
        go_wp2_with fail
        go_quiet (fail)
        go_wp2
        go_roundw
        case measure => simp [intOf]; omega
        case rel => exact ⟨j + 1, by omega, by go_num, Below.drewN hb _⟩
      · obtain rfl : j = z := by omega
        have q3r := keep_cell hbw q3
        have q4r := keep_cell hbw q4
        have q5r := keep_cell hbw q5
        have q6r := keep_cell hbw q6
        have hjl : (j : Int) < (yl : Int) := by omega
        go_wp2_with fail
        go_quiet (fail)
        go_wp2
        all_goals
          refine bodyPost_ret (v := ?_) ?hrun rfl ?_
          case hrun => (simp only [results, Try.results31]; go_simp; first | done | exact rfl)
          exact HR.out _ _ ⟨rfl, by (repeat' (first | (with_reducible exact Below.refl _ _) | (with_reducible refine Below.drewN ?_ _) | (with_reducible refine Below.alloc ?_ ?_ _) | (with_reducible refine Below.setCell ?_ ?_ _) | (with_reducible refine Below.drew ?_) | (refine below_hyp (by assumption) ?_ ?_) | go_size))⟩

end Go.Proofs.Ytcdmmnfdnmjnpaa
