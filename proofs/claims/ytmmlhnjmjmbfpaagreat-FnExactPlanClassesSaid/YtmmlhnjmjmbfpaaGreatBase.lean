

/-
  Plain facts that the walks of this claim use: names as lists of bytes, frames of worlds, closing lemmas. No condition.
-/
import Derived.Test.YtmmlhnjmjmbfpaaGreatRows
import Derived.WalkKit
import Derived.WalkSpells
import Derived.WalkLawsBesides
import Derived.Lib.Hide
import Derived.Handy
namespace Go.Proofs.YtmmlhnjmjmbfpaaGreat
set_option linter.unusedSimpArgs false
set_option linter.unusedVariables false
open Go.RowKit

theorem calls_hide {P : Program} {f : FuncId} {args : Array Value} {w : World} {S : Ending → World → Prop}
    (h : ∀ R : Ending → World → Prop, Hid (∀ e w', S e w' → R e w') → Calls P f args w R) : Calls P f args w S := h S fun _ _ h => h

theorem below_hyp {B B1 : Nat} {w w1 w' : World} (h : Below B1 w1 w') (k : Below B w w1) (hB : B ≤ B1) : Below B w w' := k.trans (h.mono hB)

/-- Behind a call that leaves what was there: the cells below 'n + k' (n: the heap's size when the function began, k: how many blocks it has made itself) read as they did, in the walk's form. -/
theorem bfacts {W w1 : World} {B n k : Nat} (hb : Below B W w1) (hB : n + k ≤ B) (hs : B ≤ W.heap.size) :
    (∀ j o, j < k → w1.cell? ⟨n + j, o, none⟩ = W.cell? ⟨n + j, o, none⟩) ∧ (0 < k → ∀ o, w1.cell? ⟨n, o, none⟩ = W.cell? ⟨n, o, none⟩) ∧ (∀ b o, b < n → w1.cell? ⟨b, o, none⟩ = W.cell? ⟨b, o, none⟩) ∧
    (∀ j o, j < k → w1.frozen? ⟨n + j, o, none⟩ = W.frozen? ⟨n + j, o, none⟩) ∧ (0 < k → ∀ o, w1.frozen? ⟨n, o, none⟩ = W.frozen? ⟨n, o, none⟩) ∧ (∀ b o, b < n → w1.frozen? ⟨b, o, none⟩ = W.frozen? ⟨b, o, none⟩) ∧
    (∀ j, j < k → n + j < w1.heap.size) ∧ (0 < k → n < w1.heap.size) ∧ (∀ b, b < n → b < w1.heap.size) := by
  have hz := hb.size
  refine ⟨fun j o h => hb.cell (p := ⟨n + j, o, none⟩) ?_, fun h o => hb.cell (p := ⟨n, o, none⟩) ?_, fun b o h => hb.cell (p := ⟨b, o, none⟩) ?_, fun j o h => hb.frozen (p := ⟨n + j, o, none⟩) ?_, fun h o => hb.frozen (p := ⟨n, o, none⟩) ?_, fun b o h => hb.frozen (p := ⟨b, o, none⟩) ?_, fun j h => ?_, fun h => ?_, fun b h => ?_⟩
  all_goals first | omega | (show (_ : Nat) < _; simp; omega) | (simp; omega)

theorem cell_of_heap {w w' : World} {b o : Nat} (h : w'.heap[b]? = w.heap[b]?) : w'.cell? ⟨b, o, none⟩ = w.cell? ⟨b, o, none⟩ := World.cell?_of_block (w := w) h
theorem frozen_of_heap {w w' : World} {b o : Nat} (h : w'.heap[b]? = w.heap[b]?) : w'.frozen? ⟨b, o, none⟩ = w.frozen? ⟨b, o, none⟩ := World.frozen?_of_block (w := w) h

theorem ret_val {a b : Value} (h : a = b) : Ending.returned a = .returned b := by rw [h]
theorem ret_bool {a b : Bool} (h : a = b) : Ending.returned (.bool a) = .returned (.bool b) := by rw [h]
theorem ret_int {k : IntKind} {a b : Int} (h : a = b) : Ending.returned (.int k a) = .returned (.int k b) := by rw [h]
theorem ret_str {a b : ByteArray} (h : a = b) : Ending.returned (.string a) = .returned (.string b) := by rw [h]

def small (c : UInt8) : Bool := decide (97 ≤ (c.toNat : Int)) && decide ((c.toNat : Int) ≤ 122)
/-- a name: 1 to 6 small letters -/
def namOk (s : ByteArray) : Bool := !(s.size == 0) && decide (s.size ≤ 6) && s.data.toList.all small

theorem take_snoc (s : ByteArray) (k : Nat) (h : k < s.size) : s.data.toList.take (k + 1) = s.data.toList.take k ++ [s[k]] := by
  rw [List.take_succ_eq_append_getElem (by simpa using h)]; rfl

theorem all_snoc (s : ByteArray) (k : Nat) (h : k < s.size) : (s.data.toList.take (k + 1)).all small = ((s.data.toList.take k).all small && small s[k]) := by
  rw [take_snoc s k h]; simp

theorem namOk_ne {s : ByteArray} (h0 : s.size ≠ 0) (h1 : s.size ≤ 6) : namOk s = s.data.toList.all small := by
  unfold namOk
  have : (s.size == 0) = false := by simpa using h0
  simp [this, h1]

theorem namOk_stop {s : ByteArray} {k : Nat} (h : k < s.size) (hs : small s[k] = false) : namOk s = false := by
  have : s.data.toList.all small = false := by
    rw [List.all_eq_false]
    exact ⟨s[k], by show s.data[k] ∈ s.data.toList; simp, by simp [hs]⟩
  unfold namOk
  rw [this]; simp

theorem namOk_long {s : ByteArray} (h : 6 < s.size) : namOk s = false := by unfold namOk; simp; omega

theorem small_no {c : UInt8} (h : (c.toNat : Int) < 97 ∨ 122 < (c.toNat : Int)) : small c = false := by
  unfold small; simp; omega
theorem small_yes {c : UInt8} (h : 97 ≤ (c.toNat : Int) ∧ (c.toNat : Int) ≤ 122) : small c = true := by
  unfold small; simp; omega

/-- a kind: a number without a name, or one of a class with its name -/
def kndOk (k : Int) (n : ByteArray) : Bool := (k == 1) && n.toList.isEmpty || (k == 2) && namOk n
/-- what may be known of a thing -/
def tagOk (k : Int) (n : ByteArray) : Bool := ((k == 0 || k == 1 || k == 3) && n.toList.isEmpty) || (k == 2) && namOk n

/-- a code: a slice of bytes that can be read -/
def Bytes (w : World) (v : Value) : Prop :=
  ∃ (a : Option Addr) (len cap : Nat), v = .slice a len cap ∧ len ≤ cap ∧ cap ≤ maxLen ∧ (0 < len → ∃ b off, a = some ⟨b, off, none⟩ ∧ b < w.heap.size ∧ ∀ i, i < len → ∃ c : Nat, c < 256 ∧ w.cell? ⟨b, off + i, none⟩ = some (.int .u8 c))


theorem keep_cell {x x' : World} {a : Addr} {v : Value} (hb : Below x.heap.size x x') (h : x.cell? a = some v) : x'.cell? a = some v := (hb.cell (block_lt_of_cell h)).trans h
theorem keep_below {N : Nat} {W x x' : World} (hb : Below x.heap.size x x') (h : Below N W x) (hN : N ≤ W.heap.size) : Below N W x' := h.trans (hb.mono (by have := h.size; omega))

end Go.Proofs.YtmmlhnjmjmbfpaaGreat
