

/-
  Plain words on keepers: what is ok, what a keeper has and whom it asks. No program in sight. No condition.
-/
import Derived.Test.YtmmlhnjmjmbfpaaGreatOk
namespace Go.Proofs.YtmmlhnjmjmbfpaaGreat
set_option linter.unusedSimpArgs false
set_option linter.unusedVariables false
open Go.RowKit

theorem sameN_iff {a b : ByteArray} : sameN a b = true ↔ a = b := by
  constructor
  · intro h
    have h : a.toList = b.toList := by simpa [sameN] using h
    rw [ByteArray.toList_eq, ByteArray.toList_eq] at h
    exact ByteArray.ext (Array.toList_inj.mp h)
  · rintro rfl; simp [sameN]
theorem sameN_false {a b : ByteArray} : sameN a b = false ↔ a ≠ b := by
  rw [Ne, ← sameN_iff]; simp
theorem sameN_self (a : ByteArray) : sameN a a = true := sameN_iff.2 rfl

def ownAt (xs : List DClsClass) (n : ByteArray) : Int := firstAt (fun c => sameN c.fName n) xs
def askAt (xs : List DLodAsk) (n : ByteArray) : Int := firstAt (fun c => sameN c.fName n) xs
/-- whom a keeper asks; -1, if nobody -/
def asksOf (xs : List DLodAsk) (n : ByteArray) : Int := match xs.find? (fun c => sameN c.fName n) with | some a => a.fKeeper | none => -1
def ownIn (xs : List DClsClass) (k : Nat) (c : DClsClass) : Bool := clsOk c && decide (ownAt (xs.take k) c.fName < 0)
def askIn (many : Int) (xs : List DLodAsk) (k : Nat) (a : DLodAsk) : Bool := namOk a.fName && (decide (0 ≤ a.fKeeper) && decide (a.fKeeper ≤ many - 1)) && decide (askAt (xs.take k) a.fName < 0)
def keeperOk (many : Int) (k : DLodKeeper) : Bool := decide (k.fOwns.length ≤ 5) && decide (k.fAsks.length ≤ 4) && each (ownIn k.fOwns) k.fOwns && each (askIn many k.fAsks) k.fAsks
def lodOk (p : DLodPlan) : Bool := decide (1 ≤ p.fKeepers.length) && decide (p.fKeepers.length ≤ 3) && each (fun _ k => keeperOk p.fKeepers.length k) p.fKeepers

theorem asksOf_none {xs : List DLodAsk} {n : ByteArray} (h : askAt xs n < 0) : asksOf xs n = -1 := by
  have : xs.find? (fun c => sameN c.fName n) = none := by
    rcases firstAt_cases (fun c : DLodAsk => sameN c.fName n) xs with ⟨_, h2⟩ | ⟨k, x, h1, _⟩
    · rw [List.find?_eq_none]
      intro x hx
      obtain ⟨i, hi⟩ := List.mem_iff_getElem?.1 hx
      simp [h2 i x hi]
    · unfold askAt at h; rw [h1] at h; omega
  simp [asksOf, this]
theorem asksOf_some {xs : List DLodAsk} {n : ByteArray} (h : 0 ≤ askAt xs n) : ∃ a, a ∈ xs ∧ sameN a.fName n = true ∧ asksOf xs n = a.fKeeper ∧ xs[(askAt xs n).toNat]? = some a := by
  rcases firstAt_cases (fun c : DLodAsk => sameN c.fName n) xs with ⟨h1, _⟩ | ⟨k, x, h1, h2, h3, h4⟩
  · unfold askAt at h; rw [h1] at h; omega
  · have hf : xs.find? (fun c => sameN c.fName n) = some x := by
      obtain ⟨hk, rfl⟩ := List.getElem?_eq_some_iff.1 h2
      rw [List.find?_eq_some_iff_getElem]
      exact ⟨h3, k, hk, rfl, fun j hj => by have := h4 j xs[j] hj (List.getElem?_eq_getElem (by omega)); simpa using this⟩
    refine ⟨x, List.mem_of_getElem? h2, h3, by simp [asksOf, hf], ?_⟩
    unfold askAt
    rw [h1]
    simpa using h2

/-- in asks that are ok so far: to ask somebody is to be there -/
theorem asksOf_sign {many : Int} {xs : List DLodAsk} {k : Nat} (h : EachTo (askIn many xs) xs k = true) (n : ByteArray) : (asksOf (xs.take k) n < 0) ↔ (askAt (xs.take k) n < 0) := by
  constructor
  · intro hn
    refine Decidable.byContradiction fun hc => ?_
    obtain ⟨a, h1, h2, h3, h4⟩ := asksOf_some (n := n) (xs := xs.take k) (by omega)
    obtain ⟨i, hi⟩ := List.mem_iff_getElem?.1 h1
    have hik : i < k := by
      have := (List.getElem?_eq_some_iff.1 hi).1
      rw [List.length_take] at this; omega
    have := EachTo.mem h i a hik (by rw [List.getElem?_take, if_pos hik] at hi; exact hi)
    simp [askIn] at this
    omega
  · intro hn
    rw [asksOf_none hn]; omega

/-- a keeper's own class of a name: where it stands -/
def optI (i : Int) : Option Int := if i < 0 then none else some i
def ownK (k : DLodKeeper) (n : ByteArray) : Option Int := optI (ownAt k.fOwns n)
def askK (k : DLodKeeper) (n : ByteArray) : Option Int := optI (asksOf k.fAsks n)
/-- the function turned at one key -/
def upd (f : Int → ByteArray → Option Int) (k : Int) (s : ByteArray) (v : Int) : Int → ByteArray → Option Int := fun k' s' => if k' = k ∧ s' = s then some v else f k' s'

theorem firstAt_snoc {α : Type} (p : α → Bool) (xs : List α) (x : α) (h : firstAt p xs < 0) : firstAt p (xs ++ [x]) = if p x then (xs.length : Int) else -1 := by
  induction xs with
  | nil => simp [firstAt]
  | cons y r ih =>
    cases hy : p y
    · have h0 : firstAt p r < 0 := by
        by_cases hr : firstAt p r < 0
        · exact hr
        · simp [firstAt, hy, hr] at h; omega
      have := ih h0
      simp only [List.cons_append, firstAt, hy, this]
      cases hx : p x
      · simp
      · have hn : ¬ (r.length : Int) < 0 := by omega
        simp [hn]
    · simp [firstAt, hy] at h
theorem firstAt_snoc_pos {α : Type} (p : α → Bool) (xs : List α) (x : α) (h : 0 ≤ firstAt p xs) : firstAt p (xs ++ [x]) = firstAt p xs := by
  induction xs with
  | nil => simp [firstAt] at h
  | cons y r ih =>
    cases hy : p y
    · have h0 : 0 ≤ firstAt p r := by
        by_cases hr : firstAt p r < 0
        · simp [firstAt, hy, hr] at h
        · omega
      have := ih h0
      simp only [List.cons_append, firstAt, hy, this]
    · simp [firstAt, hy]
theorem take_snoc' {α : Type} {xs : List α} {k : Nat} {x : α} (h : xs[k]? = some x) : xs.take (k + 1) = xs.take k ++ [x] := by
  obtain ⟨hk, rfl⟩ := List.getElem?_eq_some_iff.1 h
  exact List.take_succ_eq_append_getElem hk

/-- one own class more -/
theorem own_step {xs : List DClsClass} {i : Nat} {c : DClsClass} (e : xs[i]? = some c) (h : ownAt (xs.take i) c.fName < 0) (n : ByteArray) : optI (ownAt (xs.take (i + 1)) n) = if n = c.fName then some (i : Int) else optI (ownAt (xs.take i) n) := by
  have hi : (xs.take i).length = i := by rw [List.length_take]; have := (List.getElem?_eq_some_iff.1 e).1; omega
  rw [take_snoc' e]
  unfold ownAt at *
  by_cases hn : n = c.fName
  · subst hn
    rw [firstAt_snoc _ _ _ h, hi, if_pos rfl, if_pos (sameN_self _)]
    have : ¬ (i : Int) < 0 := by omega
    simp [optI, this]
  · rw [if_neg hn]
    by_cases h0 : firstAt (fun c => sameN c.fName n) (xs.take i) < 0
    · have hc : sameN c.fName n = false := sameN_false.2 fun e => hn e.symm
      rw [firstAt_snoc _ _ _ h0, hc]
      simp [optI, h0]
    · rw [firstAt_snoc_pos _ _ _ (by omega)]
/-- one whom it asks more -/
theorem ask_step {many : Int} {xs : List DLodAsk} {i : Nat} {a : DLodAsk} (hok : EachTo (askIn many xs) xs i = true) (e : xs[i]? = some a) (h : askAt (xs.take i) a.fName < 0) (h0 : 0 ≤ a.fKeeper) (n : ByteArray) :
    optI (asksOf (xs.take (i + 1)) n) = if n = a.fName then some a.fKeeper else optI (asksOf (xs.take i) n) := by
  rw [take_snoc' e]
  have hq : ∀ n, asksOf (xs.take i ++ [a]) n = if asksOf (xs.take i) n < 0 then (if sameN a.fName n then a.fKeeper else -1) else asksOf (xs.take i) n := fun n => by
    by_cases hn : askAt (xs.take i) n < 0
    · have h1 := asksOf_none hn
      have h2 : (xs.take i).find? (fun c => sameN c.fName n) = none := by
        rw [List.find?_eq_none]
        intro x hx
        obtain ⟨j, hj⟩ := List.mem_iff_getElem?.1 hx
        rcases firstAt_cases (fun c : DLodAsk => sameN c.fName n) (xs.take i) with ⟨_, h2⟩ | ⟨k, x, h1, _⟩
        · simp [h2 j x hj]
        · unfold askAt at hn; rw [h1] at hn; omega
      rw [h1]
      unfold asksOf
      rw [List.find?_append, h2]
      cases hs : sameN a.fName n <;> simp [List.find?_cons, hs]
    · have hp : ¬ asksOf (xs.take i) n < 0 := fun hc => hn ((asksOf_sign hok n).1 hc)
      rw [if_neg hp]
      obtain ⟨b, _, _, h3, _⟩ := asksOf_some (n := n) (xs := xs.take i) (by omega)
      unfold asksOf at *
      rw [List.find?_append]
      cases hf : (xs.take i).find? (fun c => sameN c.fName n) with
      | none => simp [hf] at hp
      | some y => simp
  rw [hq]
  by_cases hn : n = a.fName
  · subst hn
    rw [if_pos rfl, if_pos ((asksOf_sign hok _).2 h), if_pos (sameN_self _)]
    have : ¬ a.fKeeper < 0 := by omega
    simp [optI, this]
  · rw [if_neg hn]
    have hc : sameN a.fName n = false := sameN_false.2 fun e => hn e.symm
    rw [hc]
    by_cases hx : asksOf (xs.take i) n < 0
    · simp [optI, hx]
    · rw [if_neg hx]

end Go.Proofs.YtmmlhnjmjmbfpaaGreat
