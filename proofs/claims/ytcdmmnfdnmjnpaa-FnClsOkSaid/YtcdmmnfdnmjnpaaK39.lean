/-
  Texts of mine, packed: PlainC. No condition beside those of the single theorems.
-/
import Derived.Test.YtcdmmnfdnmjnpaaK2
set_option linter.unusedSimpArgs false
set_option linter.unusedVariables false
namespace Go.Proofs.Ytcdmmnfdnmjnpaa
open Go.RowKit
theorem each_take {α : Type} {f g : Nat → α → Bool} {xs : List α} (n : Nat) (h : each f xs = true) (hi : ∀ k x, k < n → xs[k]? = some x → f k x = true → g k x = true) : each g (xs.take n) = true := each_iff.2 fun k x e => by
  rw [List.getElem?_take] at e
  split at e
  · rename_i hk; exact hi k x hk e (each_iff.1 h k x e)
  · cases e
theorem lastAt_take {xs : List DClsMap} {n k : Nat} (h : k < n) : lastAt (xs.take n) k = lastAt xs k := by
  cases k with
  | zero => rfl
  | succ k =>
    show (match (xs.take n)[k]? with | some x => x.fAt | none => 0) = (match xs[k]? with | some x => x.fAt | none => 0)
    rw [List.getElem?_take, if_pos (by omega)]
def lessMth (m : DClsMethod) (nm : ByteArray) : DClsMethod := { m with fName := nm, fMaps := m.fMaps.take (m.fMaps.length - 1) }
theorem lessMth_ok {m : DClsMethod} {nm : ByteArray} (h : mthOk m = true) (hn : namOk nm = true) : mthOk (lessMth m nm) = true := by
  unfold mthOk mapsOk codeOk at *
  simp only [Bool.and_eq_true, decide_eq_true_eq] at *
  obtain ⟨⟨⟨⟨⟨⟨⟨⟨⟨h1, h2⟩, h3⟩, h4⟩, h5⟩, h6⟩, h7⟩, h8⟩, h9⟩, h10, h11⟩ := h
  refine ⟨⟨⟨⟨⟨⟨⟨⟨⟨hn, h2⟩, h3⟩, h4⟩, h5⟩, h6⟩, h7⟩, h8⟩, h9⟩, ?_, ?_⟩
  · show (m.fMaps.take _).length ≤ 5
    rw [List.length_take]; omega
  · refine each_take _ h11 fun k x hk _ hx => ?_
    unfold mapIn at hx ⊢
    show (decide (lastAt (m.fMaps.take (m.fMaps.length - 1)) k < x.fAt) && _ && _ && _ && _ && _) = true
    rw [lastAt_take hk]
    exact hx
theorem moreMth_not (m : DClsMethod) (a b c d : DKndKind) : mthOk { m with fArgs := m.fArgs ++ [a, b, c, d] } = false := by
  unfold mthOk
  have : decide ((m.fArgs ++ [a, b, c, d]).length ≤ 3) = false := by rw [decide_eq_false_iff_not, List.length_append]; simp
  simp only [this]
  simp

theorem firstAt_mem {α : Type} {p : α → Bool} {xs : List α} {x : α} (h : x ∈ xs) (hp : p x = true) : 0 ≤ firstAt p xs := by
  rcases firstAt_cases p xs with ⟨_, h2⟩ | ⟨k, y, h1, _⟩
  · obtain ⟨i, hi⟩ := List.mem_iff_getElem?.1 h
    rw [h2 i x hi] at hp; cases hp
  · omega
def lessCls (c : DClsClass) : DClsClass := { c with fFields := c.fFields.take (c.fFields.length - 1), fMethods := c.fMethods.take (c.fMethods.length - 1) }
theorem lessCls_ok {c : DClsClass} (h : clsOk c = true) : clsOk (lessCls c) = true := by
  unfold clsOk at *
  simp only [Bool.and_eq_true, decide_eq_true_eq] at *
  obtain ⟨⟨⟨⟨⟨h1, h2⟩, h3⟩, h4⟩, h5⟩, h6⟩ := h
  refine ⟨⟨⟨⟨⟨h1, h2⟩, ?_⟩, ?_⟩, ?_⟩, ?_⟩
  · show (c.fFields.take _).length ≤ 3
    rw [List.length_take]; omega
  · show (c.fMethods.take _).length ≤ 4
    rw [List.length_take]; omega
  · refine each_take _ h5 fun k x hk _ hx => ?_
    unfold fieldIn at hx ⊢
    show (_ && _ && decide (fieldAt ((c.fFields.take (c.fFields.length - 1)).take k) x.fName < 0)) = true
    rw [List.take_take, Nat.min_eq_left (by omega)]
    exact hx
  · refine each_take _ h6 fun k x hk _ hx => ?_
    unfold methodIn at hx ⊢
    show (_ && decide (methodAt ((c.fMethods.take (c.fMethods.length - 1)).take k) x.fName < 0)) = true
    rw [List.take_take, Nat.min_eq_left (by omega)]
    exact hx
theorem twice_not {α : Type} {f : Nat → α → Bool} {xs : List α} {x : α} (h : f xs.length x = false) : each f (xs ++ [x]) = false := each_stop (k := xs.length) (x := x) (by simp) h
theorem twiceFld_not {c : DClsClass} {ms : List DClsMethod} {f : DClsField} (h : f ∈ c.fFields) : clsOk { c with fFields := c.fFields ++ [f], fMethods := ms } = false := by
  unfold clsOk
  have : each (fieldIn (c.fFields ++ [f])) (c.fFields ++ [f]) = false := twice_not (by
    unfold fieldIn
    rw [List.take_left]
    have h0 : 0 ≤ fieldAt c.fFields f.fName := firstAt_mem h (sameN_self _)
    simp; intro _ _; omega)
  simp only [this]
  simp
theorem twiceMth_not {c : DClsClass} {fs : List DClsField} {m : DClsMethod} (h : m ∈ c.fMethods) : clsOk { c with fFields := fs, fMethods := c.fMethods ++ [m] } = false := by
  unfold clsOk
  have : each (methodIn (c.fMethods ++ [m])) (c.fMethods ++ [m]) = false := twice_not (by
    unfold methodIn
    rw [List.take_left]
    have h0 : 0 ≤ methodAt c.fMethods m.fName := firstAt_mem h (sameN_self _)
    simp; intro _; omega)
  simp only [this]
  simp

def lessLod (p : DLodPlan) (i : Nat) (k : DLodKeeper) : DLodPlan := ⟨p.fKeepers.set i ⟨k.fOwns.take (k.fOwns.length - 1), []⟩⟩
theorem lessLod_ok {p : DLodPlan} (hp : lodOk p = true) {i : Nat} {k : DLodKeeper} (hk : p.fKeepers[i]? = some k) : lodOk (lessLod p i k) = true := by
  have hi := (List.getElem?_eq_some_iff.1 hk).1
  have hpl : 1 ≤ p.fKeepers.length ∧ p.fKeepers.length ≤ 3 := by
    unfold lodOk at hp
    simp only [Bool.and_eq_true, decide_eq_true_eq] at hp
    exact hp.1
  have hke : ∀ (j : Nat) x, p.fKeepers[j]? = some x → keeperOk p.fKeepers.length x = true := fun j x e => by
    unfold lodOk at hp
    simp only [Bool.and_eq_true] at hp
    exact each_iff.1 hp.2 j x e
  have hll : (lessLod p i k).fKeepers.length = p.fKeepers.length := by simp [lessLod]
  refine lod_ok (K := (lessLod p i k).fKeepers) (by rw [hll]; exact hpl) fun x hx => ?_
  rw [hll]
  obtain ⟨j, hj⟩ := List.mem_iff_getElem?.1 hx
  unfold lessLod at hj
  simp only [List.getElem?_set] at hj
  by_cases h : i = j
  · subst h
    rw [if_pos rfl, if_pos hi] at hj
    cases hj
    have h0 := hke i k hk
    unfold keeperOk at h0 ⊢
    simp only [Bool.and_eq_true, decide_eq_true_eq] at h0 ⊢
    refine ⟨⟨⟨by rw [List.length_take]; omega, by simp⟩, ?_⟩, rfl⟩
    refine each_take _ h0.1.2 fun a x hk _ hx => ?_
    unfold ownIn at hx ⊢
    rw [List.take_take, Nat.min_eq_left (by omega)]
    exact hx
  · rw [if_neg h] at hj
    exact hke j x hj
def nA : ByteArray := tx [97]
def offLod (p : DLodPlan) (i : Nat) (k : DLodKeeper) : DLodPlan := ⟨p.fKeepers.set i ⟨k.fOwns, [⟨nA, (p.fKeepers.length : Int)⟩]⟩⟩
theorem offLod_not {p : DLodPlan} {i : Nat} {k : DLodKeeper} (hk : p.fKeepers[i]? = some k) : lodOk (offLod p i k) = false := by
  have hi := (List.getElem?_eq_some_iff.1 hk).1
  have hll : (offLod p i k).fKeepers.length = p.fKeepers.length := by simp [offLod]
  unfold lodOk
  have : each (fun _ k => keeperOk ((offLod p i k).fKeepers.length) k) (offLod p i k).fKeepers = each (fun _ k => keeperOk ((offLod p i k).fKeepers.length) k) (offLod p i k).fKeepers := rfl
  have h2 : each (fun _ x => keeperOk ((offLod p i k).fKeepers.length) x) (offLod p i k).fKeepers = false := each_stop (k := i) (x := ⟨k.fOwns, [⟨nA, (p.fKeepers.length : Int)⟩]⟩) (by simp [offLod, List.getElem?_set, hi]) (by
    rw [hll]
    unfold keeperOk
    have : each (askIn (p.fKeepers.length : Int) [⟨nA, (p.fKeepers.length : Int)⟩]) [⟨nA, (p.fKeepers.length : Int)⟩] = false := each_stop (k := 0) rfl (by
      unfold askIn
      have : decide ((p.fKeepers.length : Int) ≤ (p.fKeepers.length : Int) - 1) = false := by rw [decide_eq_false_iff_not]; omega
      simp [this])
    simp [this])
  rw [h2]
  simp

end Go.Proofs.Ytcdmmnfdnmjnpaa
