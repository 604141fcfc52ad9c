

/-
  Plain words on data: what is ok of methods, classes, keepers; loops that ask something of each member of a list. No program in sight. No condition.
-/
import Derived.Test.YtmmlhnjmjmbfpaaGreatDatC
import Derived.Test.YtmmlhnjmjmbfpaaGreatIns
namespace Go.Proofs.YtmmlhnjmjmbfpaaGreat
set_option linter.unusedSimpArgs false
set_option linter.unusedVariables false
open Go.RowKit

/-- each of the first k members is as f says -/
def EachTo {α : Type} (f : Nat → α → Bool) (xs : List α) : Nat → Bool
  | 0 => true
  | k + 1 => EachTo f xs k && (match xs[k]? with | some x => f k x | none => true)
def each {α : Type} (f : Nat → α → Bool) (xs : List α) : Bool := EachTo f xs xs.length
theorem EachTo.step {α : Type} {f : Nat → α → Bool} {xs : List α} {k : Nat} {x : α} (h : EachTo f xs k = true) (e : xs[k]? = some x) (hx : f k x = true) : EachTo f xs (k + 1) = true := by
  simp [EachTo, h, e, hx]
theorem EachTo.stop {α : Type} {f : Nat → α → Bool} {xs : List α} {k : Nat} {x : α} (e : xs[k]? = some x) (hx : f k x = false) : ∀ n, k < n → EachTo f xs n = false
  | 0, h => absurd h (by omega)
  | n + 1, h => by
    by_cases hk : k = n
    · subst hk; simp [EachTo, e, hx]
    · simp [EachTo, EachTo.stop e hx n (by omega)]
theorem each_stop {α : Type} {f : Nat → α → Bool} {xs : List α} {k : Nat} {x : α} (e : xs[k]? = some x) (hx : f k x = false) : each f xs = false :=
  EachTo.stop e hx _ (List.getElem?_eq_some_iff.1 e).1
theorem each_done {α : Type} {f : Nat → α → Bool} {xs : List α} {k : Nat} (h : EachTo f xs k = true) (hk : xs.length = k) : each f xs = true := by
  unfold each; rw [hk]; exact h
theorem EachTo.mem {α : Type} {f : Nat → α → Bool} {xs : List α} : ∀ {n : Nat}, EachTo f xs n = true → ∀ k x, k < n → xs[k]? = some x → f k x = true
  | 0, _, k, x, h, _ => absurd h (by omega)
  | n + 1, hh, k, x, h, e => by
    simp only [EachTo, Bool.and_eq_true] at hh
    by_cases hk : k = n
    · subst hk; have := hh.2; rw [e] at this; exact this
    · exact EachTo.mem hh.1 k x (by omega) e
theorem EachTo.mk {α : Type} {f : Nat → α → Bool} {xs : List α} : ∀ {n : Nat}, (∀ k x, k < n → xs[k]? = some x → f k x = true) → EachTo f xs n = true
  | 0, _ => rfl
  | n + 1, h => by
    simp only [EachTo, Bool.and_eq_true]
    refine ⟨EachTo.mk fun k x hk e => h k x (by omega) e, ?_⟩
    cases e : xs[n]? with
    | none => rfl
    | some x => exact h n x (by omega) e
theorem each_iff {α : Type} {f : Nat → α → Bool} {xs : List α} : each f xs = true ↔ ∀ k x, xs[k]? = some x → f k x = true :=
  ⟨fun h k x e => EachTo.mem h k x (List.getElem?_eq_some_iff.1 e).1 e, fun h => EachTo.mk fun k x _ e => h k x e⟩

/-- where the first member stands that is as p says; -1, if none is -/
def firstAt {α : Type} (p : α → Bool) : List α → Int
  | [] => -1
  | x :: r => if p x then 0 else if firstAt p r < 0 then -1 else firstAt p r + 1
theorem firstAt_neg {α : Type} {p : α → Bool} : ∀ {xs : List α}, firstAt p xs < 0 → firstAt p xs = -1
  | [], _ => rfl
  | x :: r, h => by
    unfold firstAt at h ⊢
    split
    · rename_i hp; rw [if_pos hp] at h; omega
    · rename_i hp
      rw [if_neg hp] at h
      split
      · rfl
      · rename_i h2; rw [if_neg h2] at h; omega
theorem firstAt_hit {α : Type} {p : α → Bool} : ∀ {xs : List α} {k : Nat} {x : α}, (∀ j y, j < k → xs[j]? = some y → p y = false) → xs[k]? = some x → p x = true → firstAt p xs = k
  | [], k, x, _, e, _ => by simp at e
  | y :: r, 0, x, _, e, hx => by
    simp at e; subst e; simp [firstAt, hx]
  | y :: r, k + 1, x, h, e, hx => by
    have h0 : p y = false := h 0 y (by omega) rfl
    have := firstAt_hit (xs := r) (k := k) (fun j z hj hz => h (j + 1) z (by omega) (by simpa using hz)) (by simpa using e) hx
    have hn : ¬ (k : Int) < 0 := by omega
    simp [firstAt, h0, this, hn]
theorem firstAt_none {α : Type} {p : α → Bool} : ∀ {xs : List α}, (∀ (j : Nat) (y : α), xs[j]? = some y → p y = false) → firstAt p xs = -1
  | [], _ => rfl
  | y :: r, h => by
    have h0 : p y = false := h 0 y rfl
    have := firstAt_none (xs := r) (fun j z hz => h (j + 1) z (by simpa using hz))
    simp [firstAt, h0, this]
/-- .. said by EachTo -/
def nots {α : Type} (p : α → Bool) : Nat → α → Bool := fun _ x => !p x
theorem firstAt_hit' {α : Type} {p : α → Bool} {xs : List α} {k : Nat} {x : α} (h : EachTo (nots p) xs k = true) (e : xs[k]? = some x) (hx : p x = true) : firstAt p xs = k :=
  firstAt_hit (fun j y hj hy => by have := EachTo.mem h j y hj hy; simpa [nots] using this) e hx
theorem firstAt_none' {α : Type} {p : α → Bool} {xs : List α} {k : Nat} (h : EachTo (nots p) xs k = true) (hk : xs.length = k) : firstAt p xs = -1 :=
  firstAt_none fun j y hy => by
    have := EachTo.mem h j y (by rw [← hk]; exact (List.getElem?_eq_some_iff.1 hy).1) hy
    simpa [nots] using this
theorem firstAt_cases {α : Type} (p : α → Bool) (xs : List α) : (firstAt p xs = -1 ∧ ∀ (j : Nat) (y : α), xs[j]? = some y → p y = false) ∨ ∃ (k : Nat) (x : α), firstAt p xs = (k : Int) ∧ xs[k]? = some x ∧ p x = true ∧ ∀ (j : Nat) (y : α), j < k → xs[j]? = some y → p y = false := by
  induction xs with
  | nil => exact Or.inl ⟨rfl, fun j y h => by simp at h⟩
  | cons x r ih =>
    cases hx : p x
    · rcases ih with ⟨h1, h2⟩ | ⟨k, y, h1, h2, h3, h4⟩
      · refine Or.inl ⟨by simp [firstAt, hx, h1], fun j y h => ?_⟩
        cases j with
        | zero => simp at h; subst h; exact hx
        | succ j => exact h2 j y (by simpa using h)
      · refine Or.inr ⟨k + 1, y, ?_, by simpa using h2, h3, fun j z hj hz => ?_⟩
        · have hn : ¬ (k : Int) < 0 := by omega
          simp [firstAt, hx, h1, hn]
        · cases j with
          | zero => simp at hz; subst hz; exact hx
          | succ j => exact h4 j z (by omega) (by simpa using hz)
    · exact Or.inr ⟨0, x, by simp [firstAt, hx], rfl, hx, fun j y hj => absurd hj (by omega)⟩
theorem firstAt_ge {α : Type} (p : α → Bool) (xs : List α) : -1 ≤ firstAt p xs ∧ firstAt p xs < xs.length ∨ firstAt p xs = -1 := by
  rcases firstAt_cases p xs with ⟨h, _⟩ | ⟨k, x, h, e, _⟩
  · exact Or.inr h
  · have := (List.getElem?_eq_some_iff.1 e).1
    exact Or.inl ⟨by omega, by omega⟩

/-- two names are one -/
def sameN (a b : ByteArray) : Bool := a.toList == b.toList

def kndOkD (k : DKndKind) : Bool := kndOk k.fKind k.fName
def tagOkD (t : DTagTag) : Bool := tagOk t.fKind t.fName
def insOkD (i : DClsIns) : Bool := insOk i.fOp i.fA i.fName i.fMember
def tagsOk (l : List DTagTag) : Bool := each (fun _ t => tagOkD t) l
def kndsOk (l : List DKndKind) : Bool := each (fun _ t => kndOkD t) l
/-- an instruction that is ok, leads nowhere else, and uses no other places -/
def insIn (locals len : Int) (i : DClsIns) : Bool := insOkD i && !((i.fOp == 2 || i.fOp == 3) && decide (locals ≤ i.fA)) && !((i.fOp == 11 || i.fOp == 12 || i.fOp == 13) && decide (len ≤ i.fA))
def codeOk (m : DClsMethod) : Bool := decide (1 ≤ m.fCode.length) && decide (m.fCode.length ≤ 16) && each (fun _ i => insIn m.fLocals m.fCode.length i) m.fCode
/-- at which instruction what is known was told last -/
def lastAt (xs : List DClsMap) (k : Nat) : Int := match k with | 0 => 0 | k + 1 => match xs[k]? with | some x => x.fAt | none => 0
def mapIn (m : DClsMethod) (k : Nat) (x : DClsMap) : Bool := decide (lastAt m.fMaps k < x.fAt) && decide (x.fAt < (m.fCode.length : Int)) && decide ((x.fLocals.length : Int) = m.fLocals) && decide ((x.fStack.length : Int) ≤ m.fStack) && tagsOk x.fLocals && tagsOk x.fStack
def mapsOk (m : DClsMethod) : Bool := decide (m.fMaps.length ≤ 5) && each (mapIn m) m.fMaps
def mthOk (m : DClsMethod) : Bool := namOk m.fName && decide (m.fArgs.length ≤ 3) && kndOkD m.fRet && kndsOk m.fArgs && decide ((m.fArgs.length : Int) + 1 ≤ m.fLocals) && decide (m.fLocals ≤ 6) && decide (1 ≤ m.fStack) && decide (m.fStack ≤ 5) && codeOk m && mapsOk m
def fieldAt (xs : List DClsField) (n : ByteArray) : Int := firstAt (fun f => sameN f.fName n) xs
def methodAt (xs : List DClsMethod) (n : ByteArray) : Int := firstAt (fun f => sameN f.fName n) xs
def fieldIn (xs : List DClsField) (k : Nat) (f : DClsField) : Bool := namOk f.fName && kndOkD f.fKind && decide (fieldAt (xs.take k) f.fName < 0)
def methodIn (xs : List DClsMethod) (k : Nat) (f : DClsMethod) : Bool := mthOk f && decide (methodAt (xs.take k) f.fName < 0)
def clsOk (c : DClsClass) : Bool := namOk c.fName && (c.fSuper.toList.isEmpty || namOk c.fSuper) && decide (c.fFields.length ≤ 3) && decide (c.fMethods.length ≤ 4) && each (fieldIn c.fFields) c.fFields && each (methodIn c.fMethods) c.fMethods

/-- a slice cut at its end -/
theorem Sl.take {α : Type} {k : Nat} {R : RowRel α} {lo : Nat} {w : World} {a : Option Addr} {len cap : Nat} {xs : List α} (h : Sl k R lo w (.slice a len cap) xs) {j : Nat} (hj : j ≤ len) : Sl k R lo w (.slice a j cap) (xs.take j) := by
  obtain ⟨a', len', cap', e, hl, h1, h2, h3⟩ := h
  cases e
  refine ⟨a, j, cap, rfl, by rw [List.length_take]; omega, by omega, h2, fun hpos => ?_⟩
  obtain ⟨b, off, e, hlo, hbl, hr⟩ := h3 (by omega)
  refine ⟨b, off, e, hlo, hbl, fun i hi => ?_⟩
  obtain ⟨x, cs, e0, e1⟩ := hr i (by omega)
  exact ⟨x, cs, by rw [List.getElem?_take, if_pos hi]; exact e0, e1⟩
theorem Sl.len {α : Type} {k : Nat} {R : RowRel α} {lo : Nat} {w : World} {a : Option Addr} {len cap : Nat} {xs : List α} (h : Sl k R lo w (.slice a len cap) xs) : xs.length = len ∧ len ≤ cap ∧ cap ≤ maxLen := by
  obtain ⟨a', len', cap', e, hl, h1, h2, _⟩ := h
  cases e
  exact ⟨hl, h1, h2⟩

end Go.Proofs.YtmmlhnjmjmbfpaaGreat
