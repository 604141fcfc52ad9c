/-
  Texts of mine, packed: PlainB. No condition beside those of the single theorems.
-/
import Derived.Test.YtcdmmnfdnmjnpaaK28
set_option linter.unusedSimpArgs false
set_option linter.unusedVariables false
namespace Go.Proofs.Ytcdmmnfdnmjnpaa
open Go.RowKit
def nRing : ByteArray := tx tRing
theorem nRing_ok : namOk nRing = true := by decide
theorem by_ring {s : ByteArray} (h : s = nRing) : by' s = tRing := by rw [h]; exact by_tx _
def withRing (p : DLodPlan) (i : Nat) (k : DLodKeeper) : DLodPlan := ⟨p.fKeepers.set i ⟨k.fOwns, k.fAsks ++ [⟨nRing, (i : Int)⟩]⟩⟩
theorem withRing_len (p : DLodPlan) (i : Nat) (k : DLodKeeper) : (withRing p i k).fKeepers.length = p.fKeepers.length := by simp [withRing]
theorem withRing_at {p : DLodPlan} {i : Nat} {k : DLodKeeper} (hk : p.fKeepers[i]? = some k) (j : Nat) : (withRing p i k).fKeepers[j]? = if j = i then some ⟨k.fOwns, k.fAsks ++ [⟨nRing, (i : Int)⟩]⟩ else p.fKeepers[j]? := by
  unfold withRing
  simp only [List.getElem?_set]
  have hi := (List.getElem?_eq_some_iff.1 hk).1
  by_cases h : j = i
  · subst h; simp [hi]
  · rw [if_neg (fun e => h e.symm), if_neg h]
theorem asks_snoc {many : Int} {xs : List DLodAsk} {a : DLodAsk} (h : each (askIn many xs) xs = true) (hn : namOk a.fName = true) (hk : 0 ≤ a.fKeeper ∧ a.fKeeper ≤ many - 1) (hnew : askAt xs a.fName < 0) : each (askIn many (xs ++ [a])) (xs ++ [a]) = true := each_iff.2 fun k x e => by
  by_cases hl : k < xs.length
  · rw [List.getElem?_append_left hl] at e
    have := each_iff.1 h k x e
    unfold askIn at this ⊢
    rwa [List.take_append_of_le_length (by omega)]
  · rw [List.getElem?_append_right (by omega)] at e
    have hk0 : k = xs.length := by
      cases hd : k - xs.length with
      | zero => omega
      | succ d => rw [hd] at e; simp at e
    subst hk0
    simp at e
    subst e
    unfold askIn
    rw [List.take_left]
    simp only [Bool.and_eq_true, decide_eq_true_eq]
    exact ⟨⟨hn, hk⟩, hnew⟩
theorem withRing_ok {p : DLodPlan} (hp : lodOk p = true) {i : Nat} {k : DLodKeeper} (hk : p.fKeepers[i]? = some k) (hl : k.fAsks.length ≠ 4) (hnew : askAt k.fAsks nRing < 0) : lodOk (withRing p i k) = true := by
  have hi := (List.getElem?_eq_some_iff.1 hk).1
  have hpl := lodOk_len hp
  refine lod_ok (K := (withRing p i k).fKeepers) (by rw [withRing_len]; exact hpl) fun x hx => ?_
  rw [withRing_len]
  obtain ⟨j, hj⟩ := List.mem_iff_getElem?.1 hx
  rw [withRing_at hk] at hj
  by_cases h : j = i
  · rw [if_pos h] at hj
    cases hj
    obtain ⟨h1, h2, h3, h4⟩ := keeperOk_parts (lodOk_keeper hp hk)
    simp only [keeperOk, Bool.and_eq_true, decide_eq_true_eq]
    refine ⟨⟨⟨h1, by rw [List.length_append]; simp; omega⟩, h3⟩, asks_snoc h4 nRing_ok ?_ hnew⟩
    show (0 : Int) ≤ (i : Int) ∧ (i : Int) ≤ (p.fKeepers.length : Int) - 1
    omega
  · rw [if_neg h] at hj
    exact lodOk_keeper hp hj
theorem asksOf_snoc (xs : List DLodAsk) (a : DLodAsk) (nm : ByteArray) : asksOf (xs ++ [a]) nm = if 0 ≤ askAt xs nm then asksOf xs nm else if sameN a.fName nm then a.fKeeper else -1 := by
  by_cases h : 0 ≤ askAt xs nm
  · rw [if_pos h]
    obtain ⟨b, h1, h2, h3, h4⟩ := asksOf_some h
    have : xs.find? (fun c => sameN c.fName nm) = some b := by rw [find_first]; show (if 0 ≤ askAt xs nm then _ else _) = _; rw [if_pos h]; exact h4
    unfold asksOf
    rw [List.find?_append, this]
    rfl
  · rw [if_neg h]
    have : xs.find? (fun c => sameN c.fName nm) = none := by rw [find_first]; show (if 0 ≤ askAt xs nm then _ else _) = _; rw [if_neg h]
    unfold asksOf
    rw [List.find?_append, this]
    cases hs : sameN a.fName nm <;> simp [hs]
theorem withRing_nxt {p : DLodPlan} {i : Nat} {k : DLodKeeper} (hk : p.fKeepers[i]? = some k) {nm : ByteArray} (hn : nm ≠ nRing) (j : Nat) : nxt (withRing p i k) nm j = nxt p nm j := by
  unfold nxt
  rw [withRing_at hk]
  by_cases h : j = i
  · subst h
    rw [if_pos rfl, hk]
    simp only
    rw [asksOf_snoc]
    by_cases ha : 0 ≤ askAt k.fAsks nm
    · rw [if_pos ha]
    · rw [if_neg ha, asksOf_none (by omega)]
      have : sameN nRing nm = false := sameN_false.2 fun e => hn e.symm
      rw [this]; rfl
  · rw [if_neg h]
theorem withRing_own {p : DLodPlan} {i : Nat} {k : DLodKeeper} (hk : p.fKeepers[i]? = some k) (nm : ByteArray) (j : Nat) : ownN (withRing p i k) nm j = ownN p nm j := by
  unfold ownN
  rw [withRing_at hk]
  by_cases h : j = i
  · subst h; rw [if_pos rfl, hk]
  · rw [if_neg h]
theorem whoseF_same {p q : DLodPlan} {nm : ByteArray} (h1 : ∀ j, nxt q nm j = nxt p nm j) (h2 : ∀ j, ownN q nm j = ownN p nm j) : ∀ f i, whoseF q nm f i = whoseF p nm f i
  | 0, _ => rfl
  | f + 1, i => by rw [whoseF, whoseF, h1, h2, whoseF_same h1 h2 f]
theorem withRing_whoseR {p : DLodPlan} {i : Nat} {k : DLodKeeper} (hk : p.fKeepers[i]? = some k) {nm : ByteArray} (hn : nm ≠ nRing) (j : Nat) : whoseR (withRing p i k) j nm = whoseR p j nm := by
  have : whose (withRing p i k) j nm = whose p j nm := whoseF_same (withRing_nxt hk hn) (withRing_own hk nm) 4 j
  unfold whoseR
  rw [this]
theorem withRing_cls {p : DLodPlan} {i : Nat} {k : DLodKeeper} (hk : p.fKeepers[i]? = some k) (r : DLodRef) : clsAt (withRing p i k) r = clsAt p r := by
  unfold clsAt
  rw [withRing_at hk]
  by_cases h : r.fKeeper.toNat = i
  · rw [if_pos h, h, hk]
  · rw [if_neg h]
theorem withRing_chain {p : DLodPlan} {i : Nat} {k : DLodKeeper} (hk : p.fKeepers[i]? = some k) (hr : NoRing p) : ∀ f r, chainF (withRing p i k) f r = chainF p f r
  | 0, _ => rfl
  | f + 1, r => by
    rw [chainF, chainF, withRing_cls hk]
    cases hc : clsAt p r with
    | none => rfl
    | some c =>
      simp only
      have hs : c.fSuper ≠ nRing := fun e => by
        obtain ⟨_, _, k', hk', hm⟩ := loOf_some hc
        exact hr k' hk' c hm (by_ring e)
      rw [withRing_whoseR hk hs, withRing_chain hk hr f]
theorem plain_ring {p : DLodPlan} (hp : lodOk p = true) (hr : NoRing p) {i : Nat} {k : DLodKeeper} (hk : p.fKeepers[i]? = some k) (hl : k.fAsks.length ≠ 4) (hnew : askAt k.fAsks nRing < 0) :
    (lodFind (withRing p i k) (i : Int) nRing).2 = 3 ∧ ∀ nm : ByteArray, nm ≠ nRing → lodFind (withRing p i k) (i : Int) nm = lodFind p (i : Int) nm := by
  have hi := (List.getElem?_eq_some_iff.1 hk).1
  have hx := withRing_ok hp hk hl hnew
  constructor
  · rw [lodFind_in hx (by rw [withRing_len]; exact hi) nRing_ok]
    have hn : nxt (withRing p i k) nRing i = (i : Int) := by
      unfold nxt
      rw [withRing_at hk, if_pos rfl]
      simp only
      rw [asksOf_snoc, if_neg (by omega), if_pos (sameN_self _)]
    have hw : whose (withRing p i k) i nRing = (3, 0) := ring_none (S := [i]) (fun s hs => by
      rw [List.mem_singleton] at hs
      subst hs
      rw [hn]
      exact ⟨by omega, by simp⟩) 4 i (by simp)
    unfold findR whoseR
    rw [hw]
    simp
  · intro nm hn
    unfold lodFind
    have hin : inPlan (withRing p i k) (i : Int) = inPlan p (i : Int) := by unfold inPlan; rw [withRing_len]
    rw [hx, hp, hin]
    split
    · unfold findR chainR
      rw [withRing_whoseR hk hn, withRing_chain hk hr]
    · rfl

end Go.Proofs.Ytcdmmnfdnmjnpaa
