/-
  Texts of mine, packed: Base, Name, Draw, DrawK, DrawN, Rep, DatC, Ins, Ok, LodP, NumS. No condition beside those of the single theorems.
-/
import Derived.Test.YtfbonocadpknbaaGreatDoorRows
import Derived.WalkKit
import Derived.WalkSpells
import Derived.WalkLawsBesides
import Derived.Lib.Hide
import Derived.Handy
import Derived.Deep.QuietTactic
import Derived.BigQuiet
import Derived.StillTailTactics
import Derived.IntWalk
import Derived.Deep.MidRow
import Derived.Laws.MakeOwn
import Derived.Deep.RegionHeld3
import Derived.Lib.ItoaNum
set_option linter.unusedSimpArgs false
set_option linter.unusedVariables false
set_option maxHeartbeats 16000000
set_option maxRecDepth 100000
namespace Go.Proofs.YtfbonocadpknbaaGreatDoor
open Go.RowKit
theorem qhd {p : Prop} (h : p) : Hid p := Lib.hid h
theorem qab {P : Program} {f : FuncId} {args : Array Value} {w : World} {S : Ending → World → Prop}
  (h : ∀ R : Ending → World → Prop, Hid (∀ e w', S e w' → R e w') → Calls P f args w R) : Calls P f args w S := h S fun _ _ h => h

theorem below_hyp {B B1 : Nat} {w w1 w' : World} (h : Below B1 w1 w') (k : Below B w w1) (hB : B ≤ B1) : Below B w w' := k.trans (h.mono hB)

theorem bfacts {W w1 : World} {B n k : Nat} (hb : Below B W w1) (hB : n + k ≤ B) (hs : B ≤ W.heap.size) :
  (∀ j o, j < k → w1.cell? ⟨n + j, o, none⟩ = W.cell? ⟨n + j, o, none⟩) ∧ (0 < k → ∀ o, w1.cell? ⟨n, o, none⟩ = W.cell? ⟨n, o, none⟩) ∧ (∀ b o, b < n → w1.cell? ⟨b, o, none⟩ = W.cell? ⟨b, o, none⟩) ∧
  (∀ j o, j < k → w1.frozen? ⟨n + j, o, none⟩ = W.frozen? ⟨n + j, o, none⟩) ∧ (0 < k → ∀ o, w1.frozen? ⟨n, o, none⟩ = W.frozen? ⟨n, o, none⟩) ∧ (∀ b o, b < n → w1.frozen? ⟨b, o, none⟩ = W.frozen? ⟨b, o, none⟩) ∧
  (∀ j, j < k → n + j < w1.heap.size) ∧ (0 < k → n < w1.heap.size) ∧ (∀ b, b < n → b < w1.heap.size) := by
 have hz := hb.size
 refine ⟨fun j o h => hb.cell (p := ⟨n + j, o, none⟩) ?_, fun h o => hb.cell (p := ⟨n, o, none⟩) ?_, fun b o h => hb.cell (p := ⟨b, o, none⟩) ?_, fun j o h => hb.frozen (p := ⟨n + j, o, none⟩) ?_, fun h o => hb.frozen (p := ⟨n, o, none⟩) ?_, fun b o h => hb.frozen (p := ⟨b, o, none⟩) ?_, fun j h => ?_, fun h => ?_, fun b h => ?_⟩
 all_goals first | omega | (show (_ : Nat) < _; simp; omega) | (simp; omega)

theorem qag {w w' : World} {b o : Nat} (h : w'.heap[b]? = w.heap[b]?) : w'.cell? ⟨b, o, none⟩ = w.cell? ⟨b, o, none⟩ := World.cell?_of_block (w := w) h
theorem qao {w w' : World} {b o : Nat} (h : w'.heap[b]? = w.heap[b]?) : w'.frozen? ⟨b, o, none⟩ = w.frozen? ⟨b, o, none⟩ := World.frozen?_of_block (w := w) h

theorem ret_val {a b : Value} (h : a = b) : Ending.returned a = .returned b := by rw [h]
theorem qah {a b : Bool} (h : a = b) : Ending.returned (.bool a) = .returned (.bool b) := by rw [h]
theorem ret_int {k : IntKind} {a b : Int} (h : a = b) : Ending.returned (.int k a) = .returned (.int k b) := by rw [h]
theorem ret_str {a b : ByteArray} (h : a = b) : Ending.returned (.string a) = .returned (.string b) := by rw [h]

def small (c : UInt8) : Bool := decide (97 ≤ (c.toNat : Int)) && decide ((c.toNat : Int) ≤ 122)
def namOk (s : ByteArray) : Bool := !(s.size == 0) && decide (s.size ≤ 6) && s.data.toList.all small

theorem take_snoc (s : ByteArray) (k : Nat) (h : k < s.size) : s.data.toList.take (k + 1) = s.data.toList.take k ++ [s[k]] := by
 rw [List.take_succ_eq_append_getElem (by simpa using h)]; rfl

theorem all_snoc (s : ByteArray) (k : Nat) (h : k < s.size) : (s.data.toList.take (k + 1)).all small = ((s.data.toList.take k).all small && small s[k]) := by
 rw [take_snoc s k h]; simp

theorem namOk_ne {s : ByteArray} (h0 : s.size ≠ 0) (h1 : s.size ≤ 6) : namOk s = s.data.toList.all small := by
 unfold namOk
 have : (s.size == 0) = false := by simpa using h0
 simp [this, h1]

theorem namOk_stop {s : ByteArray} {k : Nat} (h : k < s.size) (hs : small s[k] = false) : namOk s = false := by
 have : s.data.toList.all small = false := by
  rw [List.all_eq_false]
  exact ⟨s[k], by show s.data[k] ∈ s.data.toList; simp, by simp [hs]⟩
 unfold namOk
 rw [this]; simp

theorem namOk_long {s : ByteArray} (h : 6 < s.size) : namOk s = false := by unfold namOk; simp; omega

theorem small_no {c : UInt8} (h : (c.toNat : Int) < 97 ∨ 122 < (c.toNat : Int)) : small c = false := by
 unfold small; simp; omega
theorem small_yes {c : UInt8} (h : 97 ≤ (c.toNat : Int) ∧ (c.toNat : Int) ≤ 122) : small c = true := by
 unfold small; simp; omega

def kndOk (k : Int) (n : ByteArray) : Bool := (k == 1) && n.toList.isEmpty || (k == 2) && namOk n
def tagOk (k : Int) (n : ByteArray) : Bool := ((k == 0 || k == 1 || k == 3) && n.toList.isEmpty) || (k == 2) && namOk n

def Bytes (w : World) (v : Value) : Prop :=
 ∃ (a : Option Addr) (len cap : Nat), v = .slice a len cap ∧ len ≤ cap ∧ cap ≤ maxLen ∧ (0 < len → ∃ b off, a = some ⟨b, off, none⟩ ∧ b < w.heap.size ∧ ∀ i, i < len → ∃ c : Nat, c < 256 ∧ w.cell? ⟨b, off + i, none⟩ = some (.int .u8 c))


theorem qad {x x' : World} {a : Addr} {v : Value} (hb : Below x.heap.size x x') (h : x.cell? a = some v) : x'.cell? a = some v := (hb.cell (block_lt_of_cell h)).trans h
theorem bbel {p : Prop} (h : p := by (repeat' (first | (with_reducible exact Below.refl _ _) | (with_reducible refine Below.alloc ?_ ?_ _) | (with_reducible refine Below.setCell ?_ ?_ _) | (with_reducible refine Below.drew ?_) | (refine below_hyp (by assumption) ?_ ?_) | go_size))) : p := h
theorem bf1 {W w1 : World} {B n : Nat} (hb : Below B W w1) (hB : n + 1 ≤ B := by go_size) (hs : B ≤ W.heap.size := by go_size) :
  (∀ o, w1.cell? ⟨n, o, none⟩ = W.cell? ⟨n, o, none⟩) ∧ (∀ b o, b < n → w1.cell? ⟨b, o, none⟩ = W.cell? ⟨b, o, none⟩) ∧
  (∀ o, w1.frozen? ⟨n, o, none⟩ = W.frozen? ⟨n, o, none⟩) ∧ (∀ b o, b < n → w1.frozen? ⟨b, o, none⟩ = W.frozen? ⟨b, o, none⟩) ∧
  (n < w1.heap.size) ∧ (∀ b, b < n → b < w1.heap.size) := by
 obtain ⟨c, d, o, f, g, p, z, x, y⟩ := bfacts (n := n) (k := 1) hb hB hs
 exact ⟨d (by decide), o, g (by decide), p, x (by decide), y⟩
theorem bf2 {W w1 : World} {B n : Nat} (hb : Below B W w1) (hB : n + 2 ≤ B := by go_size) (hs : B ≤ W.heap.size := by go_size) :
  (∀ o, w1.cell? ⟨n, o, none⟩ = W.cell? ⟨n, o, none⟩) ∧ (∀ b o, b < n → w1.cell? ⟨b, o, none⟩ = W.cell? ⟨b, o, none⟩) ∧
  (∀ o, w1.frozen? ⟨n, o, none⟩ = W.frozen? ⟨n, o, none⟩) ∧ (∀ b o, b < n → w1.frozen? ⟨b, o, none⟩ = W.frozen? ⟨b, o, none⟩) ∧
  (n < w1.heap.size) ∧ (∀ b, b < n → b < w1.heap.size) ∧ (∀ o, w1.cell? ⟨n + 1, o, none⟩ = W.cell? ⟨n + 1, o, none⟩) ∧ (∀ o, w1.frozen? ⟨n + 1, o, none⟩ = W.frozen? ⟨n + 1, o, none⟩) ∧ (n + 1 < w1.heap.size) := by
 obtain ⟨c, d, o, f, g, p, z, x, y⟩ := bfacts (n := n) (k := 2) hb hB hs
 exact ⟨d (by decide), o, g (by decide), p, x (by decide), y, fun o => c 1 o (by decide), fun o => f 1 o (by decide), z 1 (by decide)⟩
theorem bf3 {W w1 : World} {B n : Nat} (hb : Below B W w1) (hB : n + 3 ≤ B := by go_size) (hs : B ≤ W.heap.size := by go_size) :
  (∀ o, w1.cell? ⟨n, o, none⟩ = W.cell? ⟨n, o, none⟩) ∧ (∀ b o, b < n → w1.cell? ⟨b, o, none⟩ = W.cell? ⟨b, o, none⟩) ∧
  (∀ o, w1.frozen? ⟨n, o, none⟩ = W.frozen? ⟨n, o, none⟩) ∧ (∀ b o, b < n → w1.frozen? ⟨b, o, none⟩ = W.frozen? ⟨b, o, none⟩) ∧
  (n < w1.heap.size) ∧ (∀ b, b < n → b < w1.heap.size) ∧ (∀ o, w1.cell? ⟨n + 1, o, none⟩ = W.cell? ⟨n + 1, o, none⟩) ∧ (∀ o, w1.frozen? ⟨n + 1, o, none⟩ = W.frozen? ⟨n + 1, o, none⟩) ∧ (n + 1 < w1.heap.size) ∧
  (∀ o, w1.cell? ⟨n + 2, o, none⟩ = W.cell? ⟨n + 2, o, none⟩) ∧ (∀ o, w1.frozen? ⟨n + 2, o, none⟩ = W.frozen? ⟨n + 2, o, none⟩) ∧ (n + 2 < w1.heap.size) := by
 obtain ⟨c, d, o, f, g, p, z, x, y⟩ := bfacts (n := n) (k := 3) hb hB hs
 exact ⟨d (by decide), o, g (by decide), p, x (by decide), y, fun o => c 1 o (by decide), fun o => f 1 o (by decide), z 1 (by decide), fun o => c 2 o (by decide), fun o => f 2 o (by decide), z 2 (by decide)⟩

theorem qls : (∀ l : List Value, [] ++ l = l) ∧ (∀ (a : Value) (l m : List Value), a :: l ++ m = a :: (l ++ m)) ∧ (∀ (a : Value) (l : List Value), (a :: l).length = l.length + 1) ∧ (([] : List Value).length = 0) := ⟨fun _ => rfl, fun _ _ _ => rfl, fun _ _ => rfl, rfl⟩
theorem qnr : (∀ (a : Act) (d : Tmp) (v : Value), a.put (some d) v = { a with tmps := a.tmps.setIfInBounds d v }) ∧ (∀ (l : List Value) (i : Nat) (x : Value), l.toArray.setIfInBounds i x = (l.set i x).toArray) ∧ (∀ (x y : Value) (l : List Value), (x :: l).set 0 y = y :: l) ∧ (∀ (x y : Value) (l : List Value) (i : Nat), (x :: l).set (i + 1) y = x :: l.set i y) := ⟨fun _ _ _ => rfl, fun l i x => by simp, fun _ _ _ => rfl, fun _ _ _ _ => rfl⟩
theorem qsz : (∀ (w : World) (o : Obj), (w.alloc o).heap.size = w.heap.size + 1) ∧ (∀ (w : World) (a : Addr) (v : Value), (w.setCell a v).heap.size = w.heap.size) ∧ (∀ w : World, w.drew.heap.size = w.heap.size) := ⟨fun _ _ => by simp, fun _ _ _ => by simp, fun _ => rfl⟩

theorem S_NamOk (s : ByteArray) (w : World) (hs : s.size ≤ maxLen) :
  Calls Tryz.prog 35 #[.string s] w fun e w' => e = .returned (.bool (namOk s)) ∧ w = w' := by
 unfold maxLen at hs
 by_cases h0 : s.size = 0
 ·have : s = ByteArray.empty := by simpa using h0
  subst this
  refine qab fun R HR => ?_
  go_enter Tryz.func35, Tryz.ntmps35
  go_wp2
  (try go_returns)
  exact HR.out _ _ ⟨rfl, rfl⟩
 by_cases h6 : 6 < s.size
 ·have HH := qhd (namOk_long h6)
  have h0' : ((s.size : Int) == 0) = false := by simpa using h0
  have h6' : decide ((6 : Int) < (s.size : Int)) = true := by simp; omega
  refine qab fun R HR => ?_
  go_enter Tryz.func35, Tryz.ntmps35
  go_wp2
  all_goals (try go_returns)
  all_goals exact HR.out _ _ ⟨qah HH.out.symm, rfl⟩
 have h0' : ((s.size : Int) == 0) = false := by simpa using h0
 have h6' : decide ((6 : Int) < (s.size : Int)) = false := by simp; omega
 refine qab fun R HR => ?_
 go_enter Tryz.func35, Tryz.ntmps35
 go_wp2
 go_loop [3] (fun i => ∃ k : Nat, k ≤ s.size ∧ i = .int .i64 k ∧ (s.data.toList.take k).all small = true) (fun i => s.size - (intOf i).toNat)
 case atStart => exact ⟨0, Nat.zero_le _, rfl, rfl⟩
 case round =>
  obtain ⟨k, hk, rfl, ha⟩ := hrel
  have HA := qhd ha
  clear ha
  by_cases hlt : k < s.size
  ·have HS := qhd (all_snoc s k hlt)
   go_wp2
   all_goals first
    | (go_round
       case rel => exact ⟨k + 1, by omega, by go_num, by rw [HS.out, HA.out, small_yes (by assumption)]; rfl⟩
       case measure => simp [intOf]; omega)
    | (try go_returns
       exact HR.out _ _ ⟨qah (namOk_stop hlt (small_no (by omega))).symm, rfl⟩)
  ·go_wp2
   (try go_returns)
   exact HR.out _ _ ⟨qah (by rw [namOk_ne h0 (by omega)]; have := HA.out; rw [List.take_of_length_le (by simp; omega)] at this; rw [this]), rfl⟩

theorem I_word_ok (s : ByteArray) (w : World) (hs : s.size ≤ maxLen) :
  Calls Tryz.prog 49 #[.string s] w fun e w' => e = .returned (.bool (namOk s)) ∧ w = w' := by
 unfold maxLen at hs
 by_cases h0 : s.size = 0
 ·have : s = ByteArray.empty := by simpa using h0
  subst this
  refine qab fun R HR => ?_
  go_enter Tryz.func49, Tryz.ntmps49
  go_wp2
  (try go_returns)
  exact HR.out _ _ ⟨rfl, rfl⟩
 by_cases h6 : 6 < s.size
 ·have HH := qhd (namOk_long h6)
  have h0' : decide ((s.size : Int) < 1) = false := by simp; omega
  have h6' : decide ((6 : Int) < (s.size : Int)) = true := by simp; omega
  refine qab fun R HR => ?_
  go_enter Tryz.func49, Tryz.ntmps49
  go_wp2
  all_goals (try go_returns)
  all_goals exact HR.out _ _ ⟨qah HH.out.symm, rfl⟩
 have h0' : decide ((s.size : Int) < 1) = false := by simp; omega
 have h6' : decide ((6 : Int) < (s.size : Int)) = false := by simp; omega
 refine qab fun R HR => ?_
 go_enter Tryz.func49, Tryz.ntmps49
 go_wp2
 go_loop [3] (fun i => ∃ k : Nat, k ≤ s.size ∧ i = .int .i64 k ∧ (s.data.toList.take k).all small = true) (fun i => s.size - (intOf i).toNat)
 case atStart => exact ⟨0, Nat.zero_le _, rfl, rfl⟩
 case round =>
  obtain ⟨k, hk, rfl, ha⟩ := hrel
  have HA := qhd ha
  clear ha
  by_cases hlt : k < s.size
  ·have HS := qhd (all_snoc s k hlt)
   go_wp2
   all_goals first
    | (go_round
       case rel => exact ⟨k + 1, by omega, by go_num, by rw [HS.out, HA.out, small_yes (by assumption)]; rfl⟩
       case measure => simp [intOf]; omega)
    | (try go_returns
       exact HR.out _ _ ⟨qah (namOk_stop hlt (small_no (by omega))).symm, rfl⟩)
  ·go_wp2
   (try go_returns)
   exact HR.out _ _ ⟨qah (by rw [namOk_ne h0 (by omega)]; have := HA.out; rw [List.take_of_length_le (by simp; omega)] at this; rw [this]), rfl⟩

theorem I_NamOk (s : ByteArray) (w : World) (hs : s.size ≤ maxLen) :
  Calls Tryz.prog 25 #[.string s] w fun e w' => e = .returned (.bool (namOk s)) ∧ w = w' := by
 refine qab fun R HR => ?_
 go_enter Tryz.func25, Tryz.ntmps25
 go_wp2_with (go_at_call 49; refine (I_word_ok _ _ hs).mono ?_; rintro e w' ⟨rfl, rfl⟩)
 (try go_returns)
 exact HR.out _ _ ⟨rfl, rfl⟩

def Rd (w : World) (r p : Nat) : Prop :=
 r < w.heap.size ∧ ∃ (a : Option Addr) (len cap : Nat), w.cell? ⟨r, 0, none⟩ = some (.slice a len cap) ∧ w.cell? ⟨r, 1, none⟩ = some (.int .i64 p) ∧ w.frozen? ⟨r, 1, none⟩ = false ∧ len ≤ 2000 ∧ (0 < len → ∃ b off, a = some ⟨b, off, none⟩ ∧ b < r ∧ ∀ i, i < len → ∃ c : Nat, c < 256 ∧ w.cell? ⟨b, off + i, none⟩ = some (.int .u8 c))

structure Ex (r B : Nat) (w w' : World) : Prop where
 os : w'.os = w.os
 tape : w'.tape = w.tape
 output : w'.output = w.output
 size : w.heap.size ≤ w'.heap.size
 block : ∀ k, k ≠ r → k < B → w'.heap[k]? = w.heap[k]?

theorem xor_small (a b : Nat) (ha : a < 4611686018427387904) (hb : b < 4611686018427387904) : 0 ≤ bits .xor .i64 (a : Int) (b : Int) := by
 have hx : a ^^^ b < 2 ^ 62 := Nat.xor_lt_two_pow (by omega) (by omega)
 have h1 : (BitVec.ofInt 64 (a : Int)).toNat = a := by simp [BitVec.toNat_ofInt]; omega
 have h2 : (BitVec.ofInt 64 (b : Int)).toNat = b := by simp [BitVec.toNat_ofInt]; omega
 show 0 ≤ IntKind.i64.wrap ((BitVec.ofInt 64 (a : Int) ^^^ BitVec.ofInt 64 (b : Int)).toNat : Int)
 rw [BitVec.toNat_xor, h1, h2, IntKind.wrap_i64]
 omega

def InPick (n x : Int) : Prop := 0 ≤ x ∧ (1 ≤ n → x < n) ∧ (n < 1 → x = 0)

theorem S_pick_low (r p : Nat) (n : Int) (a : Option Addr) (len cap : Nat) (w : World) (hp : p < 1000000) (hn : n < 1)
  (h0 : w.cell? ⟨r, 0, none⟩ = some (.slice a len cap)) (h1 : w.cell? ⟨r, 1, none⟩ = some (.int .i64 p)) (hf : w.frozen? ⟨r, 1, none⟩ = false) :
  Calls Tryz.prog 28 #[.pointer (some ⟨r, 0, none⟩), .int .i64 n] w fun e w' => e = .returned (.int .i64 0) ∧ w' = w.setCell ⟨r, 1, none⟩ (.int .i64 (p + 1)) := by
 refine qab fun R HR => ?_
 go_enter Tryz.func28, Tryz.ntmps28
 go_wp2
 all_goals (try go_returns)
 all_goals exact HR.out _ _ ⟨rfl, rfl⟩

theorem S_pick_none (r p : Nat) (n : Int) (a : Option Addr) (cap : Nat) (w : World) (hp : p < 1000000) (hn : 1 ≤ n)
  (h0 : w.cell? ⟨r, 0, none⟩ = some (.slice a 0 cap)) (h1 : w.cell? ⟨r, 1, none⟩ = some (.int .i64 p)) (hf : w.frozen? ⟨r, 1, none⟩ = false) :
  Calls Tryz.prog 28 #[.pointer (some ⟨r, 0, none⟩), .int .i64 n] w fun e w' => e = .returned (.int .i64 0) ∧ w' = w.setCell ⟨r, 1, none⟩ (.int .i64 (p + 1)) := by
 have hn' : decide (n < 1) = false := by simp; omega
 refine qab fun R HR => ?_
 go_enter Tryz.func28, Tryz.ntmps28
 go_wp2
 all_goals (try go_returns)
 all_goals exact HR.out _ _ ⟨rfl, rfl⟩

theorem S_pick_in (r p : Nat) (n : Int) (b off len cap : Nat) (c : Nat) (w : World) (hp : p < 1000000) (hn : 1 ≤ n) (hn2 : n ≤ 9223372036854775807)
  (h0 : w.cell? ⟨r, 0, none⟩ = some (.slice (some ⟨b, off, none⟩) len cap)) (h1 : w.cell? ⟨r, 1, none⟩ = some (.int .i64 p)) (hf : w.frozen? ⟨r, 1, none⟩ = false) (hl : p < len) (hl2 : len ≤ 2000)
  (hb : b < r) (hc : w.cell? ⟨b, off + p, none⟩ = some (.int .u8 c)) (hc2 : c < 256) :
  Calls Tryz.prog 28 #[.pointer (some ⟨r, 0, none⟩), .int .i64 n] w fun e w' => e = .returned (.int .i64 ((c : Int) % n)) ∧ w' = w.setCell ⟨r, 1, none⟩ (.int .i64 (p + 1)) := by
 have hn' : decide (n < 1) = false := by simp; omega
 have hl' : ((len : Int) == 0) = false := by simp; omega
 have hbr : b ≠ r := by omega
 refine qab fun R HR => ?_
 go_enter Tryz.func28, Tryz.ntmps28
 go_wp2
 all_goals (try go_returns)
 all_goals exact HR.out _ _ ⟨rfl, rfl⟩

theorem S_pick_past (r p : Nat) (n : Int) (b off len cap : Nat) (c d : Nat) (w : World) (hp : p < 1000000) (hn : 1 ≤ n) (hn2 : n ≤ 9223372036854775807)
  (h0 : w.cell? ⟨r, 0, none⟩ = some (.slice (some ⟨b, off, none⟩) len cap)) (h1 : w.cell? ⟨r, 1, none⟩ = some (.int .i64 p)) (hf : w.frozen? ⟨r, 1, none⟩ = false) (hl : len ≤ p) (hl0 : 0 < len) (hl2 : len ≤ 2000)
  (hb : b < r) (hc : w.cell? ⟨b, off + ((p : Int) % (len : Int)).toNat, none⟩ = some (.int .u8 c)) (hc2 : c < 256) (hd : w.cell? ⟨b, off + (((p : Int) * 7 + 3) % (len : Int)).toNat, none⟩ = some (.int .u8 d)) (hd2 : d < 256) :
  Calls Tryz.prog 28 #[.pointer (some ⟨r, 0, none⟩), .int .i64 n] w fun e w' => (∃ x : Int, InPick n x ∧ e = .returned (.int .i64 x)) ∧ ∃ q, w' = (w.setCell ⟨r, 1, none⟩ (.int .i64 (p + 1))).drewN q := by
 have hn' : decide (n < 1) = false := by simp; omega
 have hl' : ((len : Int) == 0) = false := by simp; omega
 have hbr : b ≠ r := by omega
 have l1 : 0 ≤ (p : Int) % (len : Int) := Int.emod_nonneg _ (by omega)
 have l2 : (p : Int) % (len : Int) < len := Int.emod_lt_of_pos _ (by omega)
 have l3 : 0 ≤ ((p : Int) * 7 + 3) % (len : Int) := Int.emod_nonneg _ (by omega)
 have l4 : ((p : Int) * 7 + 3) % (len : Int) < len := Int.emod_lt_of_pos _ (by omega)
 have hne : ¬ len = 0 := by omega
 have m1 : 0 ≤ (p : Int) / (len : Int) := Int.ediv_nonneg (by omega) (by omega)
 have m2 : (p : Int) / (len : Int) ≤ p := Int.ediv_le_self _ (by omega)
 have t1 : Int.tmod (p : Int) (len : Int) = (p : Int) % len := Int.tmod_eq_emod_of_nonneg (by omega)
 have t2 : Int.tmod ((p : Int) * 7 + 3) (len : Int) = ((p : Int) * 7 + 3) % len := Int.tmod_eq_emod_of_nonneg (by omega)
 have t3 : Int.tdiv (p : Int) (len : Int) = (p : Int) / len := Int.tdiv_eq_ediv_of_nonneg (by omega)
 have v1 : IntKind.i64.wrap ((p : Int) * 7) = (p : Int) * 7 := IntWalk.i64_in _ (by omega)
 have v2 : IntKind.i64.wrap ((p : Int) * 7 + 3) = (p : Int) * 7 + 3 := IntWalk.i64_in _ (by omega)
 have v3 : IntKind.i64.wrap ((c : Int) * 131) = (c : Int) * 131 := IntWalk.i64_in _ (by omega)
 have v4 : IntKind.i64.wrap ((d : Int) * 1117) = (d : Int) * 1117 := IntWalk.i64_in _ (by omega)
 have v5 : IntKind.i64.wrap ((c : Int) * 131 + (d : Int) * 1117) = (c : Int) * 131 + (d : Int) * 1117 := IntWalk.i64_in _ (by omega)
 have v6 : IntKind.i64.wrap ((p : Int) * 29) = (p : Int) * 29 := IntWalk.i64_in _ (by omega)
 have v7 : IntKind.i64.wrap ((c : Int) * 131 + (d : Int) * 1117 + (p : Int) * 29) = (c : Int) * 131 + (d : Int) * 1117 + (p : Int) * 29 := IntWalk.i64_in _ (by omega)
 have v8 : IntKind.i64.wrap ((p : Int) / (len : Int)) = (p : Int) / (len : Int) := IntWalk.i64_in _ (by omega)
 have v9 : IntKind.i64.wrap ((p : Int) / (len : Int) * 53) = (p : Int) / (len : Int) * 53 := IntWalk.i64_in _ (by omega)
 have va : IntKind.i64.wrap ((c : Int) * 131 + (d : Int) * 1117 + (p : Int) * 29 + (p : Int) / (len : Int) * 53) = (c : Int) * 131 + (d : Int) * 1117 + (p : Int) * 29 + (p : Int) / (len : Int) * 53 := IntWalk.i64_in _ (by omega)
 obtain ⟨X, hX⟩ : ∃ X : Nat, (X : Int) = (c : Int) * 131 + (d : Int) * 1117 + (p : Int) * 29 + (p : Int) / (len : Int) * 53 := ⟨((c : Int) * 131 + (d : Int) * 1117 + (p : Int) * 29 + (p : Int) / (len : Int) * 53).toNat, by omega⟩
 have hXx : 0 ≤ bits .xor .i64 ((c : Int) * 131 + (d : Int) * 1117 + (p : Int) * 29 + (p : Int) / (len : Int) * 53) (((c : Int) * 131 + (d : Int) * 1117 + (p : Int) * 29 + (p : Int) / (len : Int) * 53) / 64) := by
  rw [← hX, show (X : Int) / 64 = ((X / 64 : Nat) : Int) from by simp]
  exact xor_small _ _ (by omega) (by omega)
 clear hX
 refine qab fun R HR => ?_
 go_enter Tryz.func28, Tryz.ntmps28
 go_wp2_with fail
 go_quiet (fail)
 clear t1 t2 t3 v1 v2 v3 v4 v5 v6 v7 v8 v9 va
 go_wp2_with fail
 all_goals (try go_returns)
 all_goals exact HR.out _ _ ⟨⟨_, ⟨Int.emod_nonneg _ (by omega), fun _ => Int.emod_lt_of_pos _ (by omega), fun _ => by omega⟩, rfl⟩, ⟨_, rfl⟩⟩

theorem toNat_mod (a b : Nat) : ((a : Int) % (b : Int)).toNat = a % b := by
 have h : (a : Int) % (b : Int) = ((a % b : Nat) : Int) := by simp
 rw [h, Int.toNat_natCast]
theorem Ex.refl (r B : Nat) (w : World) : Ex r B w w := ⟨rfl, rfl, rfl, Nat.le_refl _, fun _ _ _ => rfl⟩
theorem Ex.trans {r B : Nat} {a b c : World} (h : Ex r B a b) (k : Ex r B b c) : Ex r B a c :=
 ⟨k.os.trans h.os, k.tape.trans h.tape, k.output.trans h.output, Nat.le_trans h.size k.size, fun i hi hl => (k.block i hi hl).trans (h.block i hi hl)⟩
theorem Ex.mono {r B B1 : Nat} {a b : World} (h : Ex r B1 a b) (hB : B ≤ B1) : Ex r B a b := ⟨h.os, h.tape, h.output, h.size, fun k hk hl => h.block k hk (by omega)⟩
theorem ex_hyp {r B B1 : Nat} {w w1 w' : World} (h : Ex r B1 w1 w') (k : Ex r B w w1) (hB : B ≤ B1) : Ex r B w w' := k.trans (h.mono hB)
theorem ex_below {r B B1 : Nat} {w w1 w' : World} (h : Below B1 w1 w') (k : Ex r B w w1) (hB : B ≤ B1) : Ex r B w w' := k.trans ⟨h.os, h.tape, h.output, h.size, fun k _ hl => h.block k (by omega)⟩
theorem Ex.below {r B : Nat} {a b : World} (h : Ex r B a b) (hB : B ≤ r) : Below B a b := ⟨h.os, h.tape, h.output, h.size, fun k hk => h.block k (by omega) hk⟩
theorem below_ex {r B B1 : Nat} {w w1 w' : World} (h : Ex r B1 w1 w') (k : Below B w w1) (hB : B ≤ B1) (hr : B ≤ r) : Below B w w' := k.trans ((h.mono hB).below hr)
theorem Ex.alloc {r B : Nat} {w a : World} (h : Ex r B w a) (hB : B ≤ a.heap.size) (o : Obj) : Ex r B w (a.alloc o) :=
 h.trans ⟨rfl, rfl, rfl, by simp, fun k _ hk => Below.heap_alloc _ _ _ (by omega)⟩
theorem Ex.setCell {r B : Nat} {w a : World} (h : Ex r B w a) {p : Addr} (hp : B ≤ p.block) (u : Value) : Ex r B w (a.setCell p u) :=
 h.trans ⟨rfl, rfl, rfl, by simp [World.setCell], fun k _ hk => Below.heap_setCell _ _ _ _ (by omega)⟩
theorem Ex.drew {r B : Nat} {w a : World} (h : Ex r B w a) : Ex r B w a.drew := ⟨h.os, h.tape, h.output, h.size, h.block⟩
theorem Ex.drewN {r B : Nat} {w a : World} (h : Ex r B w a) (q : Nat) : Ex r B w (a.drewN q) := ⟨h.os, h.tape, h.output, h.size, h.block⟩
theorem Ex.setDrewN (r p q : Nat) (w : World) (v : Value) (B : Nat) : Ex r B w ((w.setCell ⟨r, p, none⟩ v).drewN q) :=
 ⟨rfl, rfl, rfl, by show w.heap.size ≤ (w.setCell _ v).heap.size; simp [World.setCell], fun k hk _ => Below.heap_setCell _ _ _ _ hk⟩

theorem efacts {W w1 : World} {r B n k : Nat} (hb : Ex r B W w1) (hB : n + k ≤ B) (hs : B ≤ W.heap.size) (hr : r < n ∨ n + k ≤ r) :
  (∀ j o, j < k → w1.cell? ⟨n + j, o, none⟩ = W.cell? ⟨n + j, o, none⟩) ∧ (0 < k → ∀ o, w1.cell? ⟨n, o, none⟩ = W.cell? ⟨n, o, none⟩) ∧
  (∀ j o, j < k → w1.frozen? ⟨n + j, o, none⟩ = W.frozen? ⟨n + j, o, none⟩) ∧ (0 < k → ∀ o, w1.frozen? ⟨n, o, none⟩ = W.frozen? ⟨n, o, none⟩) ∧
  (∀ j, j < k → n + j < w1.heap.size) ∧ (0 < k → n < w1.heap.size) ∧ (∀ b, b < n → b < w1.heap.size) := by
 have hz := hb.size
 have hc : ∀ b, b ≠ r → b < B → w1.heap[b]? = W.heap[b]? := hb.block
 refine ⟨fun j o h => qag (hc _ ?_ ?_), fun h o => qag (hc _ ?_ ?_), fun j o h => qao (hc _ ?_ ?_), fun h o => qao (hc _ ?_ ?_), fun j h => ?_, fun h => ?_, fun b h => ?_⟩
 all_goals first | omega | (simp; omega)


theorem Rd.stay {w w' : World} {r p : Nat} (h : Rd w r p) (hs : w.heap.size ≤ w'.heap.size) (hb : ∀ k, k ≤ r → w'.heap[k]? = w.heap[k]?) : Rd w' r p := by
 obtain ⟨h0, a, len, cap, h1, h2, h3, h4, h5⟩ := h
 refine ⟨by omega, a, len, cap, (qag (hb r (Nat.le_refl _))).trans h1, (qag (hb r (Nat.le_refl _))).trans h2, (qao (hb r (Nat.le_refl _))).trans h3, h4, fun hl => ?_⟩
 obtain ⟨b, off, rfl, hbr, hc⟩ := h5 hl
 exact ⟨b, off, rfl, hbr, fun i hi => by obtain ⟨c, hc1, hc2⟩ := hc i hi; exact ⟨c, hc1, (qag (hb b (by omega))).trans hc2⟩⟩

theorem Rd.moved {w : World} {r p q : Nat} (h : Rd w r p) : Rd ((w.setCell ⟨r, 1, none⟩ (.int .i64 ((p : Int) + 1))).drewN q) r (p + 1) := by
 obtain ⟨h0, a, len, cap, h1, h2, h3, h4, h5⟩ := h
 refine ⟨by show r < (w.setCell _ _).heap.size; simpa [World.setCell] using h0, a, len, cap, ?_, ?_, ?_, h4, fun hl => ?_⟩
 ·show (w.setCell _ _).cell? _ = _
  rw [World.cell?_setCell_other _ _ _ _ (by simp)]; exact h1
 ·show (w.setCell _ _).cell? _ = _
  rw [World.cell?_setCell_same _ _ _ h2]; simp
 ·show (w.setCell _ _).frozen? _ = _
  rw [World.frozen?_setCell]; exact h3
 ·obtain ⟨b, off, rfl, hbr, hc⟩ := h5 hl
  exact ⟨b, off, rfl, hbr, fun i hi => by
   obtain ⟨c, hc1, hc2⟩ := hc i hi
   exact ⟨c, hc1, (show (w.setCell _ _).cell? _ = _ by rw [World.cell?_setCell_other _ _ _ _ (by intro h; simp at h <;> omega)]; exact hc2)⟩⟩

theorem Rd.lt {w : World} {r p : Nat} (h : Rd w r p) : r < w.heap.size := h.1
theorem Rd.alloc {w : World} {r p : Nat} (h : Rd w r p) (o : Obj) : Rd (w.alloc o) r p :=
 h.stay (by simp) fun k hk => Below.heap_alloc _ _ _ (by have := h.1; omega)
theorem Rd.setCell {w : World} {r p : Nat} (h : Rd w r p) {a : Addr} (ha : r < a.block) (v : Value) : Rd (w.setCell a v) r p :=
 h.stay (by simp [World.setCell]) fun k hk => Below.heap_setCell _ _ _ _ (by omega)
theorem Rd.drew {w : World} {r p : Nat} (h : Rd w r p) : Rd w.drew r p := h.stay (Nat.le_refl _) fun k hk => rfl
theorem Rd.drewN {w : World} {r p : Nat} (h : Rd w r p) (q : Nat) : Rd (w.drewN q) r p := h.stay (Nat.le_refl _) fun k hk => rfl
theorem rd_below {w1 w' : World} {r p B : Nat} (hb : Below B w1 w') (h : Rd w1 r p) (hB : r < B) : Rd w' r p := h.stay hb.size fun k hk => hb.block k (by omega)

theorem S_pick (r p : Nat) (n : Int) (w : World) (hn2 : n ≤ 9223372036854775807) (hr : Rd w r p) (hp : p < 1000000) :
  Calls Tryz.prog 28 #[.pointer (some ⟨r, 0, none⟩), .int .i64 n] w fun e w' => (∃ x : Int, InPick n x ∧ e = .returned (.int .i64 x)) ∧ Rd w' r (p + 1) ∧ Ex r w.heap.size w w' := by
 have hr' := hr
 obtain ⟨h0, a, len, cap, h1, h2, h3, h4, h5⟩ := hr
 by_cases hn : n < 1
 ·refine (S_pick_low r p n a len cap w hp hn h1 h2 h3).mono ?_
  rintro e w' ⟨rfl, rfl⟩
  exact ⟨⟨0, ⟨by omega, by omega, by omega⟩, rfl⟩, hr'.moved (q := 0), Ex.setDrewN r 1 0 w _ _⟩
 by_cases hl : len = 0
 ·subst hl
  refine (S_pick_none r p n a cap w hp (by omega) h1 h2 h3).mono ?_
  rintro e w' ⟨rfl, rfl⟩
  exact ⟨⟨0, ⟨by omega, by omega, by omega⟩, rfl⟩, hr'.moved (q := 0), Ex.setDrewN r 1 0 w _ _⟩
 obtain ⟨b, off, rfl, hbr, hc⟩ := h5 (by omega)
 by_cases hpl : p < len
 ·obtain ⟨c, hc1, hc2⟩ := hc p hpl
  refine (S_pick_in r p n b off len cap c w hp (by omega) hn2 h1 h2 h3 hpl h4 hbr hc2 hc1).mono ?_
  rintro e w' ⟨rfl, rfl⟩
  exact ⟨⟨_, ⟨Int.emod_nonneg _ (by omega), fun _ => Int.emod_lt_of_pos _ (by omega), fun _ => by omega⟩, rfl⟩, hr'.moved (q := 0), Ex.setDrewN r 1 0 w _ _⟩
 ·have g1 : 0 < len := by omega
  have g2 : len ≤ p := by omega
  have g3 : 1 ≤ n := by omega
  have e1 : ((p : Int) % (len : Int)).toNat = p % len := toNat_mod p len
  have e2 : (((p : Int) * 7 + 3) % (len : Int)).toNat = (p * 7 + 3) % len := by rw [show ((p : Int) * 7 + 3) = ((p * 7 + 3 : Nat) : Int) from by omega]; exact toNat_mod _ _
  obtain ⟨c, hc1, hc2⟩ := hc (p % len) (Nat.mod_lt _ g1)
  obtain ⟨d, hd1, hd2⟩ := hc ((p * 7 + 3) % len) (Nat.mod_lt _ g1)
  refine (S_pick_past r p n b off len cap c d w hp g3 hn2 h1 h2 h3 g2 g1 h4 hbr (by rw [e1]; exact hc2) hc1 (by rw [e2]; exact hd2) hd1).mono ?_
  rintro e w' ⟨hx, q, rfl⟩
  exact ⟨hx, hr'.moved, Ex.setDrewN r 1 q w _ _⟩

theorem eexx {p : Prop} (h : p := by (repeat' (first | (with_reducible exact Ex.refl _ _ _) | (with_reducible exact Below.refl _ _) | (with_reducible refine Ex.alloc ?_ ?_ _) | (with_reducible refine Ex.setCell ?_ ?_ _) | (with_reducible refine Ex.drew ?_) | (with_reducible refine Ex.drewN ?_ _) | (with_reducible refine Below.alloc ?_ ?_ _) | (with_reducible refine Below.setCell ?_ ?_ _) | (with_reducible refine Below.drew ?_) | (refine ex_hyp (by assumption) ?_ ?_) | (refine ex_below (by assumption) ?_ ?_) | (refine below_ex (by assumption) ?_ ?_ ?_) | (refine below_hyp (by assumption) ?_ ?_) | go_size))) : p := h
theorem rdd {p : Prop} (h : p := by (repeat' (first | assumption | (with_reducible refine Rd.alloc ?_ _) | (with_reducible refine Rd.setCell ?_ ?_ _) | (with_reducible refine Rd.drew ?_) | (with_reducible refine Rd.drewN ?_ _) | (refine rd_below (by assumption) ?_ ?_) | go_size))) : p := h

theorem S_odd (r p : Nat) (n : Int) (w : World) (hn : -9223372036854775808 < n) (hn2 : n ≤ 9223372036854775807) (hr : Rd w r p) (hp : p < 1000000) :
  Calls Tryz.prog 29 #[.pointer (some ⟨r, 0, none⟩), .int .i64 n] w fun e w' => (∃ x : Bool, e = .returned (.bool x)) ∧ Rd w' r (p + 1) ∧ Ex r w.heap.size w w' := by
 refine qab fun R HR => ?_
 go_enter Tryz.func29, Tryz.ntmps29
 go_wp2_with fail
 refine (S_pick r p n w hn2 hr hp).mono ?_
 rintro e w1 ⟨⟨x, hx, rfl⟩, h1, h2⟩
 have hX := qhd hx
 clear hx
 go_wp2
 all_goals (try go_returns)
 all_goals exact HR.out _ _ ⟨⟨_, rfl⟩, h1, h2⟩

theorem five {x : Int} (h : InPick 5 x) : x = 0 ∨ x = 1 ∨ x = 2 ∨ x = 3 ∨ x = 4 := by
 obtain ⟨h1, h2, h3⟩ := h; omega

def ShortK (v : Value) : Prop := ∃ (k : Int) (n : ByteArray), v = .agg #[.int .i64 k, .string n] ∧ n.size ≤ 4 ∧ 0 ≤ k + 1 ∧ k ≤ 4

theorem S_l20Kind (r p : Nat) (n : Int) (w : World) (hn : -9223372036854775808 < n) (hn2 : n ≤ 9223372036854775807) (hr : Rd w r p) (hp : p < 900000) :
  Calls Tryz.prog 54 #[.pointer (some ⟨r, 0, none⟩), .int .i64 n] w fun e w' => (∃ v, ShortK v ∧ e = .returned v) ∧ Rd w' r (p + 2) ∧ Ex r w.heap.size w w' := by
 have hlt := hr.lt
 refine qab fun R HR => ?_
 go_enter Tryz.func54, Tryz.ntmps54
 go_wp2_with fail
 refine (S_odd r p n _ hn hn2 (rdd) (by omega)).mono ?_
 rintro e w1 ⟨⟨x, rfl⟩, h1, h2⟩
 have h2s := (h2).size; (try simp only [qsz] at h2s)
 obtain ⟨h2ac, h2ad, h2af, h2ag, h2az, h2ax, h2ay⟩ := efacts (n := w.heap.size) (k := 1) h2 (by go_size) (by go_size) (by first | omega | (simp; omega)); replace h2ad := h2ad (by decide); replace h2ag := h2ag (by decide); replace h2ax := h2ax (by decide); clear h2ac h2af h2az
 go_wp2_with fail
 all_goals
  refine (S_pick r (p + 1) 5 _ (by omega) (rdd) (by omega)).mono ?_
  rintro e w2 ⟨⟨y, hy, rfl⟩, h3, h4⟩
  have h4s := (h4).size; (try simp only [qsz] at h4s)
  obtain ⟨h4bc, h4bd, h4bf, h4bg, h4bz, h4bx, h4by⟩ := efacts (n := w.heap.size) (k := 1) h4 (by go_size) (by go_size) (by first | omega | (simp; omega)); replace h4bd := h4bd (by decide); replace h4bg := h4bg (by decide); replace h4bx := h4bx (by decide); clear h4bc h4bf h4bz
  obtain ⟨h4cc, h4cd, h4cf, h4cg, h4cz, h4cx, h4cy⟩ := efacts (n := w1.heap.size) (k := 1) h4 (by go_size) (by go_size) (by first | omega | (simp; omega)); replace h4cd := h4cd (by decide); replace h4cg := h4cg (by decide); replace h4cx := h4cx (by decide); clear h4cc h4cf h4cz
  rcases five hy with rfl | rfl | rfl | rfl | rfl
 all_goals go_wp2
 all_goals
  refine bodyPost_ret (v := ?_) ?hrun rfl ?_
  case hrun => (simp only [results, Tryz.results54]; go_simp; first | done | exact rfl)
  exact HR.out _ _ ⟨⟨_, ⟨_, _, rfl, by decide, by decide, by decide⟩, rfl⟩, rdd, eexx⟩

theorem seven {x : Int} (h : InPick 7 x) : x = 0 ∨ x = 1 ∨ x = 2 ∨ x = 3 ∨ x = 4 ∨ x = 5 ∨ x = 6 := by
 obtain ⟨h1, h2, h3⟩ := h; omega

theorem S_l20Tag (r p : Nat) (n : Int) (w : World) (hn : -9223372036854775808 < n) (hn2 : n ≤ 9223372036854775807) (hr : Rd w r p) (hp : p < 900000) :
  Calls Tryz.prog 56 #[.pointer (some ⟨r, 0, none⟩), .int .i64 n] w fun e w' => (∃ v, ShortK v ∧ e = .returned v) ∧ Rd w' r (p + 2) ∧ Ex r w.heap.size w w' := by
 have hlt := hr.lt
 refine qab fun R HR => ?_
 go_enter Tryz.func56, Tryz.ntmps56
 go_wp2_with fail
 refine (S_odd r p n _ hn hn2 (rdd) (by omega)).mono ?_
 rintro e w1 ⟨⟨x, rfl⟩, h1, h2⟩
 have h2s := (h2).size; (try simp only [qsz] at h2s)
 obtain ⟨h2ac, h2ad, h2af, h2ag, h2az, h2ax, h2ay⟩ := efacts (n := w.heap.size) (k := 1) h2 (by go_size) (by go_size) (by first | omega | (simp; omega)); replace h2ad := h2ad (by decide); replace h2ag := h2ag (by decide); replace h2ax := h2ax (by decide); clear h2ac h2af h2az
 cases x
 ·go_wp2_with fail
  refine (S_pick r (p + 1) 7 _ (by omega) (rdd) (by omega)).mono ?_
  rintro e w2 ⟨⟨y, hy, rfl⟩, h3, h4⟩
  have h4s := (h4).size; (try simp only [qsz] at h4s)
  obtain ⟨h4bc, h4bd, h4bf, h4bg, h4bz, h4bx, h4by⟩ := efacts (n := w.heap.size) (k := 1) h4 (by go_size) (by go_size) (by first | omega | (simp; omega)); replace h4bd := h4bd (by decide); replace h4bg := h4bg (by decide); replace h4bx := h4bx (by decide); clear h4bc h4bf h4bz
  obtain ⟨h4cc, h4cd, h4cf, h4cg, h4cz, h4cx, h4cy⟩ := efacts (n := w1.heap.size) (k := 1) h4 (by go_size) (by go_size) (by first | omega | (simp; omega)); replace h4cd := h4cd (by decide); replace h4cg := h4cg (by decide); replace h4cx := h4cx (by decide); clear h4cc h4cf h4cz
  rcases seven hy with rfl | rfl | rfl | rfl | rfl | rfl | rfl
  all_goals go_wp2
  all_goals
   refine bodyPost_ret (v := ?_) ?hrun rfl ?_
   case hrun => (simp only [results, Tryz.results56]; go_simp; first | done | exact rfl)
   exact HR.out _ _ ⟨⟨_, ⟨_, _, rfl, by decide, by decide, by decide⟩, rfl⟩, rdd, eexx⟩
 ·go_wp2_with fail
  refine (S_pick r (p + 1) 5 _ (by omega) (rdd) (by omega)).mono ?_
  rintro e w2 ⟨⟨y, hy, rfl⟩, h3, h4⟩
  have h4s := (h4).size; (try simp only [qsz] at h4s)
  obtain ⟨h4bc, h4bd, h4bf, h4bg, h4bz, h4bx, h4by⟩ := efacts (n := w.heap.size) (k := 1) h4 (by go_size) (by go_size) (by first | omega | (simp; omega)); replace h4bd := h4bd (by decide); replace h4bg := h4bg (by decide); replace h4bx := h4bx (by decide); clear h4bc h4bf h4bz
  obtain ⟨h4cc, h4cd, h4cf, h4cg, h4cz, h4cx, h4cy⟩ := efacts (n := w1.heap.size) (k := 1) h4 (by go_size) (by go_size) (by first | omega | (simp; omega)); replace h4cd := h4cd (by decide); replace h4cg := h4cg (by decide); replace h4cx := h4cx (by decide); clear h4cc h4cf h4cz
  rcases five hy with rfl | rfl | rfl | rfl | rfl
  all_goals go_wp2
  all_goals
   refine bodyPost_ret (v := ?_) ?hrun rfl ?_
   case hrun => (simp only [results, Tryz.results56]; go_simp; first | done | exact rfl)
   exact HR.out _ _ ⟨⟨_, ⟨_, _, rfl, by decide, by decide, by decide⟩, rfl⟩, rdd, eexx⟩

theorem rd_new {w : World} {a : Option Addr} {len cap : Nat} (hl : len ≤ 2000) (h : 0 < len → ∃ b off, a = some ⟨b, off, none⟩ ∧ b < w.heap.size ∧ ∀ i, i < len → ∃ c : Nat, c < 256 ∧ w.cell? ⟨b, off + i, none⟩ = some (.int .u8 c)) :
  Rd (w.alloc (.cells #[.slice a len cap, .int .i64 0] 78)) w.heap.size 0 := by
 refine ⟨by simp, a, len, cap, by simp [go_sem], by simp [go_sem], by simp [go_sem], hl, fun h0 => ?_⟩
 obtain ⟨b, off, rfl, hb, hc⟩ := h h0
 refine ⟨b, off, rfl, hb, fun i hi => ?_⟩
 obtain ⟨c, c1, c2⟩ := hc i hi
 exact ⟨c, c1, by rw [World.cell?_alloc_past (hn := hb)]; exact c2⟩

theorem S_l20Open (v : Value) (w : World) (hv : Bytes w v) :
  Calls Tryz.prog 17 #[v] w fun e w' => e = .returned (.pointer (some ⟨w.heap.size, 0, none⟩)) ∧ Rd w' w.heap.size 0 ∧ Below w.heap.size w w' ∧ w.heap.size < w'.heap.size := by
 obtain ⟨a, len, cap, rfl, h1, h2, h3⟩ := hv
 have hm : len ≤ 9223372036854775807 := by unfold maxLen at h2; omega
 have hm2 : cap ≤ 9223372036854775807 := by unfold maxLen at h2; omega
 clear h2
 have H3 := qhd h3
 clear h3
 by_cases hl : 2000 < len
 ·obtain ⟨b, off, rfl, hb, hc⟩ := H3.out (by omega)
  have HC := qhd hc
  clear hc
  have hl' : decide ((2000 : Int) < (len : Int)) = true := by simp; omega
  refine qab fun R HR => ?_
  go_enter Tryz.func17, Tryz.ntmps17
  go_wp2
  all_goals (try go_returns)
  all_goals exact HR.out _ _ ⟨rfl, rd_new (by omega) (fun _ => ⟨b, off, rfl, hb, fun i hi => HC.out i (by omega)⟩), bbel, by simp⟩
 ·have hl' : decide ((2000 : Int) < (len : Int)) = false := by simp; omega
  refine qab fun R HR => ?_
  go_enter Tryz.func17, Tryz.ntmps17
  go_wp2
  all_goals (try go_returns)
  all_goals exact HR.out _ _ ⟨rfl, rd_new (by omega) H3.out, bbel, by simp⟩


theorem Bytes.stay {w w' : World} {v : Value} (h : Bytes w v) (hs : w.heap.size ≤ w'.heap.size) (hb : ∀ k, k < w.heap.size → w'.heap[k]? = w.heap[k]?) : Bytes w' v := by
 obtain ⟨a, len, cap, h0, h1, h2, h3⟩ := h
 refine ⟨a, len, cap, h0, h1, h2, fun hl => ?_⟩
 obtain ⟨b, off, rfl, hbr, hc⟩ := h3 hl
 exact ⟨b, off, rfl, by omega, fun i hi => by obtain ⟨c, hc1, hc2⟩ := hc i hi; exact ⟨c, hc1, (qag (hb b hbr)).trans hc2⟩⟩
theorem Bytes.alloc {w : World} {v : Value} (h : Bytes w v) (o : Obj) : Bytes (w.alloc o) v := h.stay (by simp) fun k hk => Below.heap_alloc _ _ _ hk
theorem eleven {x : Int} (h : InPick 11 x) : x = 0 ∨ x = 1 ∨ x = 2 ∨ x = 3 ∨ x = 4 ∨ x = 5 ∨ x = 6 ∨ x = 7 ∨ x = 8 ∨ x = 9 ∨ x = 10 := by
 obtain ⟨h1, h2, h3⟩ := h; omega
theorem three {x : Int} (h : InPick 3 x) : x = 0 ∨ x = 1 ∨ x = 2 := by
 obtain ⟨h1, h2, h3⟩ := h; omega

def oneB (v : Int) : ByteArray := ByteArray.empty.push (UInt8.ofNat v.toNat)
theorem oneB_size (v : Int) : (oneB v).size = 1 := rfl
theorem conv1 (v : Int) (b : Nat) (w : World) (h : w.cell? ⟨b, 0, none⟩ = some (.int .u8 v)) :
  (convert 22 9 (.slice (some ⟨b, 0, none⟩) 1 1)).run Tryz.prog w = .ok (.string (oneB v)) w := by
 rw [run_convert_bytes_string w 22 9 5 _ 1 1 Tryz.underlying22 Tryz.underlying5 Tryz.underlying9]
 rw [run_bytesToString w ⟨b, 0, none⟩ 1 1 [v] (by rw [show (1 : Nat) = [Value.int .u8 v].length from rfl, run_loadCells_list w ⟨b, 0, none⟩ [.int .u8 v] (by intro j x hx; cases j with | zero => simp at hx; subst hx; simpa [Addr.add] using h | succ j => simp at hx)]; rfl)]
 rfl

theorem app_size (a b : ByteArray) : (a ++ b).size = a.size + b.size := ByteArray.size_append

theorem eight {x : Int} (h : InPick 8 x) : x = 0 ∨ x = 1 ∨ x = 2 ∨ x = 3 ∨ x = 4 ∨ x = 5 ∨ x = 6 ∨ x = 7 := by
 obtain ⟨h1, h2, h3⟩ := h; omega

structure Keeps (lo : Nat) (w w' : World) : Prop where
 size : w.heap.size ≤ w'.heap.size
 block : ∀ k, lo ≤ k → k < w.heap.size → w'.heap[k]? = w.heap[k]?
theorem Keeps.of_below {lo : Nat} {w w' : World} (h : Below w.heap.size w w') : Keeps lo w w' := ⟨h.size, fun k _ hk => h.block k hk⟩
theorem Keeps.of_below' {lo : Nat} {w w' : World} {B : Nat} (h : Below B w w') (hB : w.heap.size ≤ B) : Keeps lo w w' := ⟨h.size, fun k _ hk => h.block k (by omega)⟩

abbrev RowRel (α : Type) := Nat → World → List Value → α → Prop
structure Good {α : Type} (R : RowRel α) : Prop where
 stays : ∀ lo w w' cs x, Keeps lo w w' → R lo w cs x → R lo w' cs x
 low : ∀ lo lo' w cs x, lo' ≤ lo → R lo w cs x → R lo' w cs x

def SlAt {α : Type} (k : Nat) (R : RowRel α) (lo : Nat) (w : World) (a : Option Addr) (len : Nat) (xs : List α) : Prop :=
 0 < len → ∃ b off, a = some ⟨b, off, none⟩ ∧ lo ≤ b ∧ b < w.heap.size ∧ ∀ i, i < len → ∃ x cs, xs[i]? = some x ∧ cs.length = k ∧ w.rangeAt b (off + i * k) cs ∧ R lo w cs x
def Sl {α : Type} (k : Nat) (R : RowRel α) (lo : Nat) (w : World) (v : Value) (xs : List α) : Prop :=
 ∃ (a : Option Addr) (len cap : Nat), v = .slice a len cap ∧ xs.length = len ∧ len ≤ cap ∧ cap ≤ maxLen ∧ SlAt k R lo w a len xs

theorem range_keep {w w' : World} {b o : Nat} {cs : List Value} (h : w.rangeAt b o cs) (hb : w'.heap[b]? = w.heap[b]?) : w'.rangeAt b o cs := fun j v hj => by
 rw [qag hb]; exact h j v hj
theorem range_below {w w' : World} {b o : Nat} {cs : List Value} {B : Nat} (h : w.rangeAt b o cs) (hb : Below B w w') (hB : b < B) : w'.rangeAt b o cs := range_keep h (hb.block b hB)

theorem SlAt.stays {α : Type} {k : Nat} {R : RowRel α} (hR : Good R) {lo : Nat} {w w' : World} {a : Option Addr} {len : Nat} {xs : List α} (h3 : SlAt k R lo w a len xs) (hb : Keeps lo w w') : SlAt k R lo w' a len xs := fun hl => by
 obtain ⟨b, off, e, hlo, hbl, hr⟩ := h3 hl
 refine ⟨b, off, e, hlo, Nat.lt_of_lt_of_le hbl hb.size, fun i hi => ?_⟩
 obtain ⟨x, cs, c0, c1, c2, c3⟩ := hr i hi
 exact ⟨x, cs, c0, c1, range_keep c2 (hb.block b hlo hbl), hR.stays _ _ _ _ _ hb c3⟩
theorem SlAt.low {α : Type} {k : Nat} {R : RowRel α} (hR : Good R) {lo lo' : Nat} {w : World} {a : Option Addr} {len : Nat} {xs : List α} (h3 : SlAt k R lo w a len xs) (hl' : lo' ≤ lo) : SlAt k R lo' w a len xs := fun hl => by
 obtain ⟨b, off, e, hlo, hbl, hr⟩ := h3 hl
 refine ⟨b, off, e, Nat.le_trans hl' hlo, hbl, fun i hi => ?_⟩
 obtain ⟨x, cs, c0, c1, c2, c3⟩ := hr i hi
 exact ⟨x, cs, c0, c1, c2, hR.low _ _ _ _ _ hl' c3⟩
theorem Sl.stays {α : Type} {k : Nat} {R : RowRel α} (hR : Good R) {lo : Nat} {w w' : World} {v : Value} {xs : List α} (h : Sl k R lo w v xs) (hb : Keeps lo w w') : Sl k R lo w' v xs := by
 obtain ⟨a, len, cap, h0, hl, h1, h2, h3⟩ := h
 exact ⟨a, len, cap, h0, hl, h1, h2, h3.stays hR hb⟩
theorem Sl.low {α : Type} {k : Nat} {R : RowRel α} (hR : Good R) {lo lo' : Nat} {w : World} {v : Value} {xs : List α} (h : Sl k R lo w v xs) (hl' : lo' ≤ lo) : Sl k R lo' w v xs := by
 obtain ⟨a, len, cap, h0, hl, h1, h2, h3⟩ := h
 exact ⟨a, len, cap, h0, hl, h1, h2, h3.low hR hl'⟩

def rStr : RowRel ByteArray := fun _ _ cs s => cs = [.string s] ∧ s.size ≤ maxLen
theorem rStr_good : Good rStr := ⟨fun _ _ _ _ _ _ h => h, fun _ _ _ _ _ _ h => h⟩

structure Part {α : Type} (k : Nat) (R : RowRel α) (w : World) (b len m : Nat) (xs : List α) : Prop where
 lt : b < w.heap.size
 there : w.there b 0 (len * k)
 rows : ∀ i, i < m → ∃ x cs, xs[i]? = some x ∧ cs.length = k ∧ w.rangeAt b (i * k) cs ∧ R (b + 1) w cs x

theorem Part.below {α : Type} {k : Nat} {R : RowRel α} (hR : Good R) {w w' : World} {b len m : Nat} {xs : List α} (h : Part k R w b len m xs) (hb : Below w.heap.size w w') : Part k R w' b len m xs := by
 have hk := hb.block b h.lt
 refine ⟨Nat.lt_of_lt_of_le h.lt hb.size, fun j hj => ?_, fun i hi => ?_⟩
 ·rw [qag hk, qao hk]; exact h.there j hj
 ·obtain ⟨x, cs, c0, c1, c2, c3⟩ := h.rows i hi
  exact ⟨x, cs, c0, c1, range_keep c2 hk, hR.stays _ _ _ _ _ (Keeps.of_below hb) c3⟩

theorem size_setCells (b : Nat) : ∀ (vs : List Value) (o : Nat) (w : World), (w.setCells b o vs).heap.size = w.heap.size
 | [], _, _ => rfl
 | v :: r, o, w => by rw [World.setCells, size_setCells b r]; simp [World.setCell]
theorem heap_setCells (b : Nat) : ∀ (vs : List Value) (o : Nat) (w : World) (k : Nat), k ≠ b → (w.setCells b o vs).heap[k]? = w.heap[k]?
 | [], _, _, _, _ => rfl
 | v :: r, o, w, k, hk => by rw [World.setCells, heap_setCells b r _ _ k hk]; exact Below.heap_setCell _ _ _ _ hk

theorem Part.step {α : Type} {k : Nat} {R : RowRel α} (hR : Good R) {w : World} {b len m : Nat} {xs : List α} (h : Part k R w b len m xs) (hm : m < len) {x : α} {cs : List Value} (hx : xs[m]? = some x) (hc : cs.length = k) (hr : R (b + 1) w cs x) : Part k R (w.setCells b (m * k) cs) b len (m + 1) xs := by
 have hmk : m * k + k ≤ len * k := by
  have : (m + 1) * k ≤ len * k := Nat.mul_le_mul_right k hm
  rw [Nat.add_mul, Nat.one_mul] at this; exact this
 have hth : w.there b (m * k) cs.length := fun j hj => by
  have := h.there (m * k + j) (by omega)
  rwa [Nat.zero_add] at this
 have hK : Keeps (b + 1) w (w.setCells b (m * k) cs) := ⟨by rw [size_setCells]; exact Nat.le_refl _, fun i hi _ => heap_setCells b cs _ w i (by omega)⟩
 refine ⟨by rw [size_setCells]; exact h.lt, fun j hj => ?_, fun i hi => ?_⟩
 ·refine ⟨World.isSome_setCells b cs _ w _ (h.there j hj).1, ?_⟩
  rw [World.frozen?_setCells]; exact (h.there j hj).2
 ·by_cases him : i < m
  ·obtain ⟨y, ds, c0, c1, c2, c3⟩ := h.rows i him
   refine ⟨y, ds, c0, c1, World.rangeAt_setCells_apart c2 _ _ _ (Or.inr (Or.inl ?_)), hR.stays _ _ _ _ _ hK c3⟩
   have : (i + 1) * k ≤ m * k := Nat.mul_le_mul_right k him
   rw [Nat.add_mul, Nat.one_mul] at this; omega
  ·obtain rfl : i = m := by omega
   exact ⟨x, cs, hx, hc, World.rangeAt_setCells_same _ _ _ _ hth, hR.stays _ _ _ _ _ hK hr⟩

theorem Part.done {α : Type} {k : Nat} {R : RowRel α} (hR : Good R) {w : World} {b len : Nat} {xs : List α} (h : Part k R w b len len xs) (hl : xs.length = len) (hm : len ≤ maxLen) : Sl k R b w (.slice (some ⟨b, 0, none⟩) len len) xs :=
 ⟨_, len, len, rfl, hl, Nat.le_refl _, hm, fun _ => ⟨b, 0, rfl, Nat.le_refl _, h.lt, fun i hi => by
  obtain ⟨x, cs, c0, c1, c2, c3⟩ := h.rows i hi
  exact ⟨x, cs, c0, c1, by rw [Nat.zero_add]; exact c2, hR.low _ _ _ _ _ (by omega) c3⟩⟩⟩

theorem Sl.form {α : Type} {k : Nat} {R : RowRel α} {lo : Nat} {w : World} {v : Value} {xs : List α} (h : Sl k R lo w v xs) : ∃ a len cap, v = .slice a len cap := by
 obtain ⟨a, len, cap, h, _⟩ := h; exact ⟨a, len, cap, h⟩

theorem Keeps.refl (lo : Nat) (w : World) : Keeps lo w w := ⟨Nat.le_refl _, fun _ _ _ => rfl⟩
theorem Keeps.trans {lo : Nat} {a b c : World} (h : Keeps lo a b) (k : Keeps lo b c) : Keeps lo a c := ⟨Nat.le_trans h.size k.size, fun i hi hl => (k.block i hi (Nat.lt_of_lt_of_le hl h.size)).trans (h.block i hi hl)⟩
theorem Keeps.alloc {lo : Nat} {w a : World} (h : Keeps lo w a) (o : Obj) : Keeps lo w (a.alloc o) := h.trans ⟨by simp, fun k _ hk => Below.heap_alloc _ _ _ hk⟩
theorem Keeps.setCell {lo : Nat} {w a : World} (h : Keeps lo w a) {p : Addr} (hp : p.block < lo) (v : Value) : Keeps lo w (a.setCell p v) := h.trans ⟨by simp [World.setCell], fun k hk _ => Below.heap_setCell _ _ _ _ (by omega)⟩
theorem Keeps.drew {lo : Nat} {w a : World} (h : Keeps lo w a) : Keeps lo w a.drew := ⟨h.size, h.block⟩
structure DKndKind where
 fKind : Int
 fName : ByteArray
def rKndKind : RowRel DKndKind := fun lo w cs x => cs = [.int .i64 x.fKind, .string x.fName] ∧ x.fName.size ≤ maxLen
theorem qar : Good rKndKind := ⟨fun lo w w' cs x hk h => by
  obtain ⟨h0, b1⟩ := h
  exact ⟨h0, b1⟩, fun lo lo' w cs x hk h => by
  obtain ⟨h0, b1⟩ := h
  exact ⟨h0, b1⟩⟩
structure DClsField where
 fName : ByteArray
 fKind : DKndKind
def rClsField : RowRel DClsField := fun lo w cs x => cs = [.string x.fName, .int .i64 x.fKind.fKind, .string x.fKind.fName] ∧ x.fName.size ≤ maxLen ∧ x.fKind.fName.size ≤ maxLen
theorem qap : Good rClsField := ⟨fun lo w w' cs x hk h => by
  obtain ⟨h0, b1, b2⟩ := h
  exact ⟨h0, b1, b2⟩, fun lo lo' w cs x hk h => by
  obtain ⟨h0, b1, b2⟩ := h
  exact ⟨h0, b1, b2⟩⟩
structure DClsIns where
 fOp : Int
 fA : Int
 fName : ByteArray
 fMember : ByteArray
def rClsIns : RowRel DClsIns := fun lo w cs x => cs = [.int .i64 x.fOp, .int .i64 x.fA, .string x.fName, .string x.fMember] ∧ x.fName.size ≤ maxLen ∧ x.fMember.size ≤ maxLen
theorem qau : Good rClsIns := ⟨fun lo w w' cs x hk h => by
  obtain ⟨h0, b1, b2⟩ := h
  exact ⟨h0, b1, b2⟩, fun lo lo' w cs x hk h => by
  obtain ⟨h0, b1, b2⟩ := h
  exact ⟨h0, b1, b2⟩⟩
structure DTagTag where
 fKind : Int
 fName : ByteArray
def rTagTag : RowRel DTagTag := fun lo w cs x => cs = [.int .i64 x.fKind, .string x.fName] ∧ x.fName.size ≤ maxLen
theorem qaq : Good rTagTag := ⟨fun lo w w' cs x hk h => by
  obtain ⟨h0, b1⟩ := h
  exact ⟨h0, b1⟩, fun lo lo' w cs x hk h => by
  obtain ⟨h0, b1⟩ := h
  exact ⟨h0, b1⟩⟩
structure DClsMap where
 fAt : Int
 fLocals : List DTagTag
 fStack : List DTagTag
def rClsMap : RowRel DClsMap := fun lo w cs x => ∃ v1 v2 : Value, cs = [.int .i64 x.fAt, v1, v2] ∧ Sl 2 rTagTag lo w v1 x.fLocals ∧ Sl 2 rTagTag lo w v2 x.fStack
theorem qas : Good rClsMap := ⟨fun lo w w' cs x hk h => by
  obtain ⟨v1, v2, h0, s1, s2⟩ := h
  exact ⟨v1, v2, h0, s1.stays qaq hk, s2.stays qaq hk⟩, fun lo lo' w cs x hk h => by
  obtain ⟨v1, v2, h0, s1, s2⟩ := h
  exact ⟨v1, v2, h0, s1.low qaq hk, s2.low qaq hk⟩⟩
structure DClsMethod where
 fName : ByteArray
 fArgs : List DKndKind
 fRet : DKndKind
 fLocals : Int
 fStack : Int
 fCode : List DClsIns
 fMaps : List DClsMap
def rClsMethod : RowRel DClsMethod := fun lo w cs x => ∃ v1 v2 v3 : Value, cs = [.string x.fName, v1, .int .i64 x.fRet.fKind, .string x.fRet.fName, .int .i64 x.fLocals, .int .i64 x.fStack, v2, v3] ∧ Sl 2 rKndKind lo w v1 x.fArgs ∧ Sl 4 rClsIns lo w v2 x.fCode ∧ Sl 3 rClsMap lo w v3 x.fMaps ∧ x.fName.size ≤ maxLen ∧ x.fRet.fName.size ≤ maxLen
theorem rClsMethod_good : Good rClsMethod := ⟨fun lo w w' cs x hk h => by
  obtain ⟨v1, v2, v3, h0, s1, s2, s3, b1, b2⟩ := h
  exact ⟨v1, v2, v3, h0, s1.stays qar hk, s2.stays qau hk, s3.stays qas hk, b1, b2⟩, fun lo lo' w cs x hk h => by
  obtain ⟨v1, v2, v3, h0, s1, s2, s3, b1, b2⟩ := h
  exact ⟨v1, v2, v3, h0, s1.low qar hk, s2.low qau hk, s3.low qas hk, b1, b2⟩⟩
structure DClsClass where
 fName : ByteArray
 fSuper : ByteArray
 fFields : List DClsField
 fMethods : List DClsMethod
def rClsClass : RowRel DClsClass := fun lo w cs x => ∃ v1 v2 : Value, cs = [.string x.fName, .string x.fSuper, v1, v2] ∧ Sl 3 rClsField lo w v1 x.fFields ∧ Sl 8 rClsMethod lo w v2 x.fMethods ∧ x.fName.size ≤ maxLen ∧ x.fSuper.size ≤ maxLen
theorem rClsClass_good : Good rClsClass := ⟨fun lo w w' cs x hk h => by
  obtain ⟨v1, v2, h0, s1, s2, b1, b2⟩ := h
  exact ⟨v1, v2, h0, s1.stays qap hk, s2.stays rClsMethod_good hk, b1, b2⟩, fun lo lo' w cs x hk h => by
  obtain ⟨v1, v2, h0, s1, s2, b1, b2⟩ := h
  exact ⟨v1, v2, h0, s1.low qap hk, s2.low rClsMethod_good hk, b1, b2⟩⟩
structure DLodAsk where
 fName : ByteArray
 fKeeper : Int
def rLodAsk : RowRel DLodAsk := fun lo w cs x => cs = [.string x.fName, .int .i64 x.fKeeper] ∧ x.fName.size ≤ maxLen
theorem rLodAsk_good : Good rLodAsk := ⟨fun lo w w' cs x hk h => by
  obtain ⟨h0, b1⟩ := h
  exact ⟨h0, b1⟩, fun lo lo' w cs x hk h => by
  obtain ⟨h0, b1⟩ := h
  exact ⟨h0, b1⟩⟩
structure DLodKeeper where
 fOwns : List DClsClass
 fAsks : List DLodAsk
def rLodKeeper : RowRel DLodKeeper := fun lo w cs x => ∃ v1 v2 : Value, cs = [v1, v2] ∧ Sl 4 rClsClass lo w v1 x.fOwns ∧ Sl 2 rLodAsk lo w v2 x.fAsks
theorem rLodKeeper_good : Good rLodKeeper := ⟨fun lo w w' cs x hk h => by
  obtain ⟨v1, v2, h0, s1, s2⟩ := h
  exact ⟨v1, v2, h0, s1.stays rClsClass_good hk, s2.stays rLodAsk_good hk⟩, fun lo lo' w cs x hk h => by
  obtain ⟨v1, v2, h0, s1, s2⟩ := h
  exact ⟨v1, v2, h0, s1.low rClsClass_good hk, s2.low rLodAsk_good hk⟩⟩
structure DLodPlan where
 fKeepers : List DLodKeeper
structure DChgChange where
 fKind : Int
 fKeeper : Int
 fName : ByteArray
 fTo : Int
 fClass : DClsClass
def insOk (op a : Int) (n m : ByteArray) : Bool :=
 if op == 1 then decide (-9999 ≤ a) && decide (a ≤ 9999) && n.toList.isEmpty && m.toList.isEmpty
 else if op == 2 || op == 3 then decide (0 ≤ a) && decide (a ≤ 5) && n.toList.isEmpty && m.toList.isEmpty
 else if op == 11 || op == 12 || op == 13 then decide (0 ≤ a) && decide (a ≤ 15) && n.toList.isEmpty && m.toList.isEmpty
 else if op == 6 || op == 15 then a == 0 && namOk n && m.toList.isEmpty
 else if op == 7 || op == 8 || op == 9 then a == 0 && namOk n && namOk m
 else (op == 4 || op == 5 || op == 10 || op == 14) && a == 0 && n.toList.isEmpty && m.toList.isEmpty

theorem S_l1In (a lo hi : Int) (w : World) :
  Calls Tryz.prog 23 #[.int .i64 a, .int .i64 lo, .int .i64 hi] w fun e w' => e = .returned (.bool (decide (lo ≤ a) && decide (a ≤ hi))) ∧ w = w' := by
 refine qab fun R HR => ?_
 go_enter Tryz.func23, Tryz.ntmps23
 go_wp2
 go_ways
 all_goals (try go_returns)
 all_goals exact HR.out _ _ ⟨qah (by first | (simp [true_and, *]; done) | (simp_all [true_and]; done) | (simp_all [true_and]; omega) | (simp [true_and, *]; intros; omega)), rfl⟩

theorem S_InsOk (op a : Int) (n m : ByteArray) (w : World) (hn : n.size ≤ maxLen) (hm : m.size ≤ maxLen) :
  Calls Tryz.prog 78 #[.agg #[.int .i64 op, .int .i64 a, .string n, .string m]] w fun e w' => e = .returned (.bool (insOk op a n m)) ∧ Below w.heap.size w w' := by
 refine qab fun R HR => ?_
 go_enter Tryz.func78, Tryz.ntmps78
 go_wp2_with (first | (go_at_call 23; refine (S_l1In _ _ _ _).mono ?_; rintro _ _ ⟨rfl, rfl⟩) | (go_at_call 35; refine (S_NamOk _ _ ?_).mono ?_; (first | exact hn | exact hm); rintro _ _ ⟨rfl, rfl⟩))
 all_goals (try go_returns)
 all_goals exact HR.out _ _ ⟨qah (by first | (simp [insOk, *]; done) | (simp_all [insOk]; done) | (simp_all [insOk]; omega) | (simp [insOk, *]; intros; omega)), bbel⟩

def EachTo {α : Type} (f : Nat → α → Bool) (xs : List α) : Nat → Bool
 | 0 => true
 | k + 1 => EachTo f xs k && (match xs[k]? with | some x => f k x | none => true)
def each {α : Type} (f : Nat → α → Bool) (xs : List α) : Bool := EachTo f xs xs.length
theorem EachTo.step {α : Type} {f : Nat → α → Bool} {xs : List α} {k : Nat} {x : α} (h : EachTo f xs k = true) (e : xs[k]? = some x) (hx : f k x = true) : EachTo f xs (k + 1) = true := by
 simp [EachTo, h, e, hx]
theorem EachTo.stop {α : Type} {f : Nat → α → Bool} {xs : List α} {k : Nat} {x : α} (e : xs[k]? = some x) (hx : f k x = false) : ∀ n, k < n → EachTo f xs n = false
 | 0, h => absurd h (by omega)
 | n + 1, h => by
   by_cases hk : k = n
   ·subst hk; simp [EachTo, e, hx]
   ·simp [EachTo, EachTo.stop e hx n (by omega)]
theorem qal {α : Type} {f : Nat → α → Bool} {xs : List α} {k : Nat} {x : α} (e : xs[k]? = some x) (hx : f k x = false) : each f xs = false :=
 EachTo.stop e hx _ (List.getElem?_eq_some_iff.1 e).1
theorem qav {α : Type} {f : Nat → α → Bool} {xs : List α} {k : Nat} (h : EachTo f xs k = true) (hk : xs.length = k) : each f xs = true := by
 unfold each; rw [hk]; exact h
theorem EachTo.mem {α : Type} {f : Nat → α → Bool} {xs : List α} : ∀ {n : Nat}, EachTo f xs n = true → ∀ k x, k < n → xs[k]? = some x → f k x = true
 | 0, _, k, x, h, _ => absurd h (by omega)
 | n + 1, hh, k, x, h, e => by
   simp only [EachTo, Bool.and_eq_true] at hh
   by_cases hk : k = n
   ·subst hk; have := hh.2; rw [e] at this; exact this
   ·exact EachTo.mem hh.1 k x (by omega) e
theorem EachTo.mk {α : Type} {f : Nat → α → Bool} {xs : List α} : ∀ {n : Nat}, (∀ k x, k < n → xs[k]? = some x → f k x = true) → EachTo f xs n = true
 | 0, _ => rfl
 | n + 1, h => by
   simp only [EachTo, Bool.and_eq_true]
   refine ⟨EachTo.mk fun k x hk e => h k x (by omega) e, ?_⟩
   cases e : xs[n]? with
   | none => rfl
   | some x => exact h n x (by omega) e
theorem each_iff {α : Type} {f : Nat → α → Bool} {xs : List α} : each f xs = true ↔ ∀ k x, xs[k]? = some x → f k x = true :=
 ⟨fun h k x e => EachTo.mem h k x (List.getElem?_eq_some_iff.1 e).1 e, fun h => EachTo.mk fun k x _ e => h k x e⟩

def firstAt {α : Type} (p : α → Bool) : List α → Int
 | [] => -1
 | x :: r => if p x then 0 else if firstAt p r < 0 then -1 else firstAt p r + 1
theorem firstAt_hit {α : Type} {p : α → Bool} : ∀ {xs : List α} {k : Nat} {x : α}, (∀ j y, j < k → xs[j]? = some y → p y = false) → xs[k]? = some x → p x = true → firstAt p xs = k
 | [], k, x, _, e, _ => by simp at e
 | y :: r, 0, x, _, e, hx => by
   simp at e; subst e; simp [firstAt, hx]
 | y :: r, k + 1, x, h, e, hx => by
   have h0 : p y = false := h 0 y (by omega) rfl
   have := firstAt_hit (xs := r) (k := k) (fun j z hj hz => h (j + 1) z (by omega) (by simpa using hz)) (by simpa using e) hx
   have hn : ¬ (k : Int) < 0 := by omega
   simp [firstAt, h0, this, hn]
theorem firstAt_none {α : Type} {p : α → Bool} : ∀ {xs : List α}, (∀ (j : Nat) (y : α), xs[j]? = some y → p y = false) → firstAt p xs = -1
 | [], _ => rfl
 | y :: r, h => by
   have h0 : p y = false := h 0 y rfl
   have := firstAt_none (xs := r) (fun j z hz => h (j + 1) z (by simpa using hz))
   simp [firstAt, h0, this]
def nots {α : Type} (p : α → Bool) : Nat → α → Bool := fun _ x => !p x
theorem firstAt_hit' {α : Type} {p : α → Bool} {xs : List α} {k : Nat} {x : α} (h : EachTo (nots p) xs k = true) (e : xs[k]? = some x) (hx : p x = true) : firstAt p xs = k :=
 firstAt_hit (fun j y hj hy => by have := EachTo.mem h j y hj hy; simpa [nots] using this) e hx
theorem firstAt_none' {α : Type} {p : α → Bool} {xs : List α} {k : Nat} (h : EachTo (nots p) xs k = true) (hk : xs.length = k) : firstAt p xs = -1 :=
 firstAt_none fun j y hy => by
  have := EachTo.mem h j y (by rw [← hk]; exact (List.getElem?_eq_some_iff.1 hy).1) hy
  simpa [nots] using this
theorem firstAt_cases {α : Type} (p : α → Bool) (xs : List α) : (firstAt p xs = -1 ∧ ∀ (j : Nat) (y : α), xs[j]? = some y → p y = false) ∨ ∃ (k : Nat) (x : α), firstAt p xs = (k : Int) ∧ xs[k]? = some x ∧ p x = true ∧ ∀ (j : Nat) (y : α), j < k → xs[j]? = some y → p y = false := by
 induction xs with
 | nil => exact Or.inl ⟨rfl, fun j y h => by simp at h⟩
 | cons x r ih =>
   cases hx : p x
   ·rcases ih with ⟨h1, h2⟩ | ⟨k, y, h1, h2, h3, h4⟩
    ·refine Or.inl ⟨by simp [firstAt, hx, h1], fun j y h => ?_⟩
     cases j with
     | zero => simp at h; subst h; exact hx
     | succ j => exact h2 j y (by simpa using h)
    ·refine Or.inr ⟨k + 1, y, ?_, by simpa using h2, h3, fun j z hj hz => ?_⟩
     ·have hn : ¬ (k : Int) < 0 := by omega
      simp [firstAt, hx, h1, hn]
     ·cases j with
      | zero => simp at hz; subst hz; exact hx
      | succ j => exact h4 j z (by omega) (by simpa using hz)
   ·exact Or.inr ⟨0, x, by simp [firstAt, hx], rfl, hx, fun j y hj => absurd hj (by omega)⟩
def sameN (a b : ByteArray) : Bool := a.toList == b.toList

def kndOkD (k : DKndKind) : Bool := kndOk k.fKind k.fName
def tagOkD (t : DTagTag) : Bool := tagOk t.fKind t.fName
def insOkD (i : DClsIns) : Bool := insOk i.fOp i.fA i.fName i.fMember
def tagsOk (l : List DTagTag) : Bool := each (fun _ t => tagOkD t) l
def kndsOk (l : List DKndKind) : Bool := each (fun _ t => kndOkD t) l
def insIn (locals len : Int) (i : DClsIns) : Bool := insOkD i && !((i.fOp == 2 || i.fOp == 3) && decide (locals ≤ i.fA)) && !((i.fOp == 11 || i.fOp == 12 || i.fOp == 13) && decide (len ≤ i.fA))
def codeOk (m : DClsMethod) : Bool := decide (1 ≤ m.fCode.length) && decide (m.fCode.length ≤ 16) && each (fun _ i => insIn m.fLocals m.fCode.length i) m.fCode
def lastAt (xs : List DClsMap) (k : Nat) : Int := match k with | 0 => 0 | k + 1 => match xs[k]? with | some x => x.fAt | none => 0
def mapIn (m : DClsMethod) (k : Nat) (x : DClsMap) : Bool := decide (lastAt m.fMaps k < x.fAt) && decide (x.fAt < (m.fCode.length : Int)) && decide ((x.fLocals.length : Int) = m.fLocals) && decide ((x.fStack.length : Int) ≤ m.fStack) && tagsOk x.fLocals && tagsOk x.fStack
def mapsOk (m : DClsMethod) : Bool := decide (m.fMaps.length ≤ 5) && each (mapIn m) m.fMaps
def mthOk (m : DClsMethod) : Bool := namOk m.fName && decide (m.fArgs.length ≤ 3) && kndOkD m.fRet && kndsOk m.fArgs && decide ((m.fArgs.length : Int) + 1 ≤ m.fLocals) && decide (m.fLocals ≤ 6) && decide (1 ≤ m.fStack) && decide (m.fStack ≤ 5) && codeOk m && mapsOk m
def fieldAt (xs : List DClsField) (n : ByteArray) : Int := firstAt (fun f => sameN f.fName n) xs
def methodAt (xs : List DClsMethod) (n : ByteArray) : Int := firstAt (fun f => sameN f.fName n) xs
def fieldIn (xs : List DClsField) (k : Nat) (f : DClsField) : Bool := namOk f.fName && kndOkD f.fKind && decide (fieldAt (xs.take k) f.fName < 0)
def methodIn (xs : List DClsMethod) (k : Nat) (f : DClsMethod) : Bool := mthOk f && decide (methodAt (xs.take k) f.fName < 0)
def clsOk (c : DClsClass) : Bool := namOk c.fName && (c.fSuper.toList.isEmpty || namOk c.fSuper) && decide (c.fFields.length ≤ 3) && decide (c.fMethods.length ≤ 4) && each (fieldIn c.fFields) c.fFields && each (methodIn c.fMethods) c.fMethods

theorem Sl.take {α : Type} {k : Nat} {R : RowRel α} {lo : Nat} {w : World} {a : Option Addr} {len cap : Nat} {xs : List α} (h : Sl k R lo w (.slice a len cap) xs) {j : Nat} (hj : j ≤ len) : Sl k R lo w (.slice a j cap) (xs.take j) := by
 obtain ⟨a', len', cap', e, hl, h1, h2, h3⟩ := h
 cases e
 refine ⟨a, j, cap, rfl, by rw [List.length_take]; omega, by omega, h2, fun hpos => ?_⟩
 obtain ⟨b, off, e, hlo, hbl, hr⟩ := h3 (by omega)
 refine ⟨b, off, e, hlo, hbl, fun i hi => ?_⟩
 obtain ⟨x, cs, e0, e1⟩ := hr i (by omega)
 exact ⟨x, cs, by rw [List.getElem?_take, if_pos hi]; exact e0, e1⟩
theorem Sl.len {α : Type} {k : Nat} {R : RowRel α} {lo : Nat} {w : World} {a : Option Addr} {len cap : Nat} {xs : List α} (h : Sl k R lo w (.slice a len cap) xs) : xs.length = len ∧ len ≤ cap ∧ cap ≤ maxLen := by
 obtain ⟨a', len', cap', e, hl, h1, h2, _⟩ := h
 cases e
 exact ⟨hl, h1, h2⟩

theorem sameN_iff {a b : ByteArray} : sameN a b = true ↔ a = b := by
 constructor
 ·intro h
  have h : a.toList = b.toList := by simpa [sameN] using h
  rw [ByteArray.toList_eq, ByteArray.toList_eq] at h
  exact ByteArray.ext (Array.toList_inj.mp h)
 ·rintro rfl; simp [sameN]
theorem sameN_false {a b : ByteArray} : sameN a b = false ↔ a ≠ b := by
 rw [Ne, ← sameN_iff]; simp
theorem sameN_self (a : ByteArray) : sameN a a = true := sameN_iff.2 rfl

def ownAt (xs : List DClsClass) (n : ByteArray) : Int := firstAt (fun c => sameN c.fName n) xs
def askAt (xs : List DLodAsk) (n : ByteArray) : Int := firstAt (fun c => sameN c.fName n) xs
def asksOf (xs : List DLodAsk) (n : ByteArray) : Int := match xs.find? (fun c => sameN c.fName n) with | some a => a.fKeeper | none => -1
def ownIn (xs : List DClsClass) (k : Nat) (c : DClsClass) : Bool := clsOk c && decide (ownAt (xs.take k) c.fName < 0)
def askIn (many : Int) (xs : List DLodAsk) (k : Nat) (a : DLodAsk) : Bool := namOk a.fName && (decide (0 ≤ a.fKeeper) && decide (a.fKeeper ≤ many - 1)) && decide (askAt (xs.take k) a.fName < 0)
def keeperOk (many : Int) (k : DLodKeeper) : Bool := decide (k.fOwns.length ≤ 5) && decide (k.fAsks.length ≤ 4) && each (ownIn k.fOwns) k.fOwns && each (askIn many k.fAsks) k.fAsks
def lodOk (p : DLodPlan) : Bool := decide (1 ≤ p.fKeepers.length) && decide (p.fKeepers.length ≤ 3) && each (fun _ k => keeperOk p.fKeepers.length k) p.fKeepers

theorem asksOf_none {xs : List DLodAsk} {n : ByteArray} (h : askAt xs n < 0) : asksOf xs n = -1 := by
 have : xs.find? (fun c => sameN c.fName n) = none := by
  rcases firstAt_cases (fun c : DLodAsk => sameN c.fName n) xs with ⟨_, h2⟩ | ⟨k, x, h1, _⟩
  ·rw [List.find?_eq_none]
   intro x hx
   obtain ⟨i, hi⟩ := List.mem_iff_getElem?.1 hx
   simp [h2 i x hi]
  ·unfold askAt at h; rw [h1] at h; omega
 simp [asksOf, this]
theorem asksOf_some {xs : List DLodAsk} {n : ByteArray} (h : 0 ≤ askAt xs n) : ∃ a, a ∈ xs ∧ sameN a.fName n = true ∧ asksOf xs n = a.fKeeper ∧ xs[(askAt xs n).toNat]? = some a := by
 rcases firstAt_cases (fun c : DLodAsk => sameN c.fName n) xs with ⟨h1, _⟩ | ⟨k, x, h1, h2, h3, h4⟩
 ·unfold askAt at h; rw [h1] at h; omega
 ·have hf : xs.find? (fun c => sameN c.fName n) = some x := by
   obtain ⟨hk, rfl⟩ := List.getElem?_eq_some_iff.1 h2
   rw [List.find?_eq_some_iff_getElem]
   exact ⟨h3, k, hk, rfl, fun j hj => by have := h4 j xs[j] hj (List.getElem?_eq_getElem (by omega)); simpa using this⟩
  refine ⟨x, List.mem_of_getElem? h2, h3, by simp [asksOf, hf], ?_⟩
  unfold askAt
  rw [h1]
  simpa using h2

theorem asksOf_sign {many : Int} {xs : List DLodAsk} {k : Nat} (h : EachTo (askIn many xs) xs k = true) (n : ByteArray) : (asksOf (xs.take k) n < 0) ↔ (askAt (xs.take k) n < 0) := by
 constructor
 ·intro hn
  refine Decidable.byContradiction fun hc => ?_
  obtain ⟨a, h1, h2, h3, h4⟩ := asksOf_some (n := n) (xs := xs.take k) (by omega)
  obtain ⟨i, hi⟩ := List.mem_iff_getElem?.1 h1
  have hik : i < k := by
   have := (List.getElem?_eq_some_iff.1 hi).1
   rw [List.length_take] at this; omega
  have := EachTo.mem h i a hik (by rw [List.getElem?_take, if_pos hik] at hi; exact hi)
  simp [askIn] at this
  omega
 ·intro hn
  rw [asksOf_none hn]; omega

def optI (i : Int) : Option Int := if i < 0 then none else some i
def ownK (k : DLodKeeper) (n : ByteArray) : Option Int := optI (ownAt k.fOwns n)
def askK (k : DLodKeeper) (n : ByteArray) : Option Int := optI (asksOf k.fAsks n)
def upd (f : Int → ByteArray → Option Int) (k : Int) (s : ByteArray) (v : Int) : Int → ByteArray → Option Int := fun k' s' => if k' = k ∧ s' = s then some v else f k' s'

theorem firstAt_snoc {α : Type} (p : α → Bool) (xs : List α) (x : α) (h : firstAt p xs < 0) : firstAt p (xs ++ [x]) = if p x then (xs.length : Int) else -1 := by
 induction xs with
 | nil => simp [firstAt]
 | cons y r ih =>
   cases hy : p y
   ·have h0 : firstAt p r < 0 := by
     by_cases hr : firstAt p r < 0
     ·exact hr
     ·simp [firstAt, hy, hr] at h; omega
    have := ih h0
    simp only [List.cons_append, firstAt, hy, this]
    cases hx : p x
    ·simp
    ·have hn : ¬ (r.length : Int) < 0 := by omega
     simp [hn]
   ·simp [firstAt, hy] at h
theorem firstAt_snoc_pos {α : Type} (p : α → Bool) (xs : List α) (x : α) (h : 0 ≤ firstAt p xs) : firstAt p (xs ++ [x]) = firstAt p xs := by
 induction xs with
 | nil => simp [firstAt] at h
 | cons y r ih =>
   cases hy : p y
   ·have h0 : 0 ≤ firstAt p r := by
     by_cases hr : firstAt p r < 0
     ·simp [firstAt, hy, hr] at h
     ·omega
    have := ih h0
    simp only [List.cons_append, firstAt, hy, this]
   ·simp [firstAt, hy]
theorem take_snoc' {α : Type} {xs : List α} {k : Nat} {x : α} (h : xs[k]? = some x) : xs.take (k + 1) = xs.take k ++ [x] := by
 obtain ⟨hk, rfl⟩ := List.getElem?_eq_some_iff.1 h
 exact List.take_succ_eq_append_getElem hk

theorem own_step {xs : List DClsClass} {i : Nat} {c : DClsClass} (e : xs[i]? = some c) (h : ownAt (xs.take i) c.fName < 0) (n : ByteArray) : optI (ownAt (xs.take (i + 1)) n) = if n = c.fName then some (i : Int) else optI (ownAt (xs.take i) n) := by
 have hi : (xs.take i).length = i := by rw [List.length_take]; have := (List.getElem?_eq_some_iff.1 e).1; omega
 rw [take_snoc' e]
 unfold ownAt at *
 by_cases hn : n = c.fName
 ·subst hn
  rw [firstAt_snoc _ _ _ h, hi, if_pos rfl, if_pos (sameN_self _)]
  have : ¬ (i : Int) < 0 := by omega
  simp [optI, this]
 ·rw [if_neg hn]
  by_cases h0 : firstAt (fun c => sameN c.fName n) (xs.take i) < 0
  ·have hc : sameN c.fName n = false := sameN_false.2 fun e => hn e.symm
   rw [firstAt_snoc _ _ _ h0, hc]
   simp [optI, h0]
  ·rw [firstAt_snoc_pos _ _ _ (by omega)]
theorem ask_step {many : Int} {xs : List DLodAsk} {i : Nat} {a : DLodAsk} (hok : EachTo (askIn many xs) xs i = true) (e : xs[i]? = some a) (h : askAt (xs.take i) a.fName < 0) (h0 : 0 ≤ a.fKeeper) (n : ByteArray) :
  optI (asksOf (xs.take (i + 1)) n) = if n = a.fName then some a.fKeeper else optI (asksOf (xs.take i) n) := by
 rw [take_snoc' e]
 have hq : ∀ n, asksOf (xs.take i ++ [a]) n = if asksOf (xs.take i) n < 0 then (if sameN a.fName n then a.fKeeper else -1) else asksOf (xs.take i) n := fun n => by
  by_cases hn : askAt (xs.take i) n < 0
  ·have h1 := asksOf_none hn
   have h2 : (xs.take i).find? (fun c => sameN c.fName n) = none := by
    rw [List.find?_eq_none]
    intro x hx
    obtain ⟨j, hj⟩ := List.mem_iff_getElem?.1 hx
    rcases firstAt_cases (fun c : DLodAsk => sameN c.fName n) (xs.take i) with ⟨_, h2⟩ | ⟨k, x, h1, _⟩
    ·simp [h2 j x hj]
    ·unfold askAt at hn; rw [h1] at hn; omega
   rw [h1]
   unfold asksOf
   rw [List.find?_append, h2]
   cases hs : sameN a.fName n <;> simp [List.find?_cons, hs]
  ·have hp : ¬ asksOf (xs.take i) n < 0 := fun hc => hn ((asksOf_sign hok n).1 hc)
   rw [if_neg hp]
   obtain ⟨b, _, _, h3, _⟩ := asksOf_some (n := n) (xs := xs.take i) (by omega)
   unfold asksOf at *
   rw [List.find?_append]
   cases hf : (xs.take i).find? (fun c => sameN c.fName n) with
   | none => simp [hf] at hp
   | some y => simp
 rw [hq]
 by_cases hn : n = a.fName
 ·subst hn
  rw [if_pos rfl, if_pos ((asksOf_sign hok _).2 h), if_pos (sameN_self _)]
  have : ¬ a.fKeeper < 0 := by omega
  simp [optI, this]
 ·rw [if_neg hn]
  have hc : sameN a.fName n = false := sameN_false.2 fun e => hn e.symm
  rw [hc]
  by_cases hx : asksOf (xs.take i) n < 0
  ·simp [optI, hx]
  ·rw [if_neg hx]

def tx (l : List UInt8) : ByteArray := ⟨l.toArray⟩
theorem tx_app (a b : List UInt8) : tx a ++ tx b = tx (a ++ b) := by
 apply ByteArray.ext
 rw [ByteArray.data_append]
 simp [tx]
theorem tx_size (l : List UInt8) : (tx l).size = l.length := by simp [tx, ByteArray.size]
theorem tx_by (s : ByteArray) : tx s.data.toList = s := by simp [tx]

def digB (m : Nat) : UInt8 := UInt8.ofNat (48 + m)
theorem conv_dig (m : Nat) (hm : m ≤ 9) (b : Nat) (w : World) (h : w.cell? ⟨b, 0, none⟩ = some (.int .u8 (48 + (m : Int)))) :
  (convert 22 9 (.slice (some ⟨b, 0, none⟩) 1 1)).run Tryz.prog w = .ok (.string (tx [digB m])) w := by
 rw [run_convert_bytes_string w 22 9 5 _ 1 1 Tryz.underlying22 Tryz.underlying5 Tryz.underlying9]
 rw [run_bytesToString w ⟨b, 0, none⟩ 1 1 [48 + (m : Int)] (by rw [show (1 : Nat) = [Value.int .u8 (48 + (m : Int))].length from rfl, run_loadCells_list w ⟨b, 0, none⟩ [.int .u8 (48 + (m : Int))] (by intro j x hx; cases j with | zero => simp at hx; subst hx; simpa [Addr.add] using h | succ j => simp at hx)]; rfl)]
 have h2 : (48 + (m : Int)).toNat = 48 + m := by omega
 rw [show digB m = UInt8.ofNat (48 + (m : Int)).toNat by rw [h2]; rfl]
 rfl

theorem S_l1Plain (n : Nat) (w : World) (hn : n ≤ 9999) :
  Calls Tryz.prog 21 #[.int .i64 (n : Int)] w fun e w' => e = .returned (.string (tx (Lib.decDigits n))) ∧ Below w.heap.size w w' := by
 refine qab fun R HR => ?_
 go_enter Tryz.func21, Tryz.ntmps21
 go_wp2_with fail
 go_loopw [0, 3] (fun nv ov wr => ∃ (m : Nat) (l : List UInt8), nv = .int .i64 (m : Int) ∧ ov = .string (tx l) ∧ Lib.decDigits n = Lib.decDigits m ++ l ∧ ((l.length = 0 ∧ m < 10000) ∨ (l.length = 1 ∧ m < 1000) ∨ (l.length = 2 ∧ m < 100) ∨ (l.length = 3 ∧ m < 10)) ∧ Below w.heap.size w wr) (fun nv _ _ => (intOf nv).toNat)
 case atStart => exact ⟨n, [], rfl, rfl, by simp, by simp; omega, bbel⟩
 case round =>
  obtain ⟨m, l, rfl, rfl, hd, hl, hb⟩ := hrel
  have HD := qhd hd
  have HLL := qhd hl
  have hm : m < 10000 := by omega
  have hbx := hb.size
  have hsz : (tx l).size ≤ 3 := by rw [tx_size]; omega
  clear hd hl
  by_cases h9 : m ≤ 9
  ·have g1 : ¬ ((9 : Int) < (m : Int)) := by omega
   have g2 : IntKind.u8.wrap (48 + (m : Int)) = 48 + (m : Int) := IntWalk.u8_in _ (by omega)
   have hcv := conv_dig m h9 wr.heap.size (wr.alloc (.cells #[.int .u8 (48 + (m : Int))] 5)) (by go_simp)
   have hs1 : (tx [digB m]).size = 1 := by rw [tx_size]; rfl
   have RV : Hid (tx [digB m] ++ tx l = tx (Lib.decDigits n)) := qhd (by
    rw [tx_app, HD.out, Lib.decDigits, dif_pos (by omega)]; rfl)
   go_wp2
   all_goals (try go_returns)
   all_goals exact HR.out _ _ ⟨ret_str RV.out, bbel⟩
  ·have g1 : ((9 : Int) < (m : Int)) := by omega
   have t1 : Int.tmod (m : Int) 10 = ((m % 10 : Nat) : Int) := by rw [Int.tmod_eq_emod_of_nonneg (by omega)]; omega
   have t2 : Int.tdiv (m : Int) 10 = ((m / 10 : Nat) : Int) := by rw [Int.tdiv_eq_ediv_of_nonneg (by omega)]; omega
   obtain ⟨d, hd⟩ : ∃ d, d = m % 10 := ⟨_, rfl⟩
   obtain ⟨q, hq⟩ : ∃ q, q = m / 10 := ⟨_, rfl⟩
   rw [← hd] at t1
   rw [← hq] at t2
   have hd9 : d ≤ 9 := by omega
   have g2 : IntKind.u8.wrap (48 + (d : Int)) = 48 + (d : Int) := IntWalk.u8_in _ (by omega)
   have hcv := conv_dig d hd9 wr.heap.size (wr.alloc (.cells #[.int .u8 (48 + (d : Int))] 5)) (by go_simp)
   have hs1 : (tx [digB d]).size = 1 := by rw [tx_size]; rfl
   have NX : Hid (tx [digB d] ++ tx l = tx (digB d :: l)) := qhd (by rw [tx_app]; rfl)
   have ND : Hid (Lib.decDigits n = Lib.decDigits q ++ (digB d :: l)) := qhd (by
    rw [HD.out, Lib.decDigits, dif_neg (by omega), hd, hq]
    simp [digB])
   have NL : Hid (((digB d :: l).length = 0 ∧ q < 10000) ∨ ((digB d :: l).length = 1 ∧ q < 1000) ∨ ((digB d :: l).length = 2 ∧ q < 100) ∨ ((digB d :: l).length = 3 ∧ q < 10)) := qhd (by
    have := HLL.out
    simp only [List.length_cons]
    omega)
   have hqm : q < m := by omega
   clear hd hq
   go_wp2
   go_roundw
   case measure => simp [intOf]; omega
   case rel => exact ⟨q, digB d :: l, by first | rfl | go_num, by rw [NX.out], ND.out, NL.out, bbel⟩

theorem nDig4 {k : Nat} (h : k ≤ 9999) : Lib.nDigits k ≤ 4 := by
 by_cases h1 : k < 10
 ·rw [Lib.nDigits, dif_pos h1]; omega
 rw [Lib.nDigits, dif_neg h1]
 by_cases h2 : k / 10 < 10
 ·rw [Lib.nDigits, dif_pos h2]; omega
 rw [Lib.nDigits, dif_neg h2]
 by_cases h3 : k / 10 / 10 < 10
 ·rw [Lib.nDigits, dif_pos h3]; omega
 rw [Lib.nDigits, dif_neg h3, Lib.nDigits, dif_pos (by omega)]; omega

theorem S_l1Num (n : Int) (w : World) (hn : -9999 ≤ n ∧ n ≤ 9999) :
  Calls Tryz.prog 92 #[.int .i64 n] w fun e w' => e = .returned (.string (tx (Lib.itoa n))) ∧ Below w.heap.size w w' := by
 by_cases h0 : n < 0
 ·obtain ⟨k, rfl⟩ : ∃ k : Nat, n = -(k : Int) := ⟨n.natAbs, by omega⟩
  have hk : k ≤ 9999 := by omega
  have hneg : - -(k : Int) = (k : Int) := by omega
  have RV : Hid (tx [45] ++ tx (Lib.decDigits k) = tx (Lib.itoa (-(k : Int)))) := qhd (by
   rw [tx_app, Lib.itoa, if_pos h0]
   have : (-(k : Int)).natAbs = k := by omega
   rw [this]; rfl)
  have hsz : (Lib.decDigits k).length ≤ 4 := by
   have := Lib.decDigits_length k
   rw [this]; exact nDig4 hk
  have hs2 : (tx (Lib.decDigits k)).size ≤ 4 := by rw [tx_size]; exact hsz
  have CO : ∀ W, Calls Tryz.prog 21 #[.int .i64 (k : Int)] W fun e w' => e = .returned (.string (tx (Lib.decDigits k))) ∧ Below W.heap.size W w' := fun W => S_l1Plain k W hk
  clear hsz
  refine qab fun R HR => ?_
  go_enter Tryz.func92, Tryz.ntmps92
  go_wp2_with fail
  refine (CO _).mono ?_
  rintro _ w1 ⟨rfl, h1⟩
  go_wp2
  all_goals (try go_returns)
  all_goals exact HR.out _ _ ⟨ret_str RV.out, bbel⟩
 ·obtain ⟨k, rfl⟩ : ∃ k : Nat, n = (k : Int) := ⟨n.toNat, by omega⟩
  have hk : k ≤ 9999 := by omega
  have RV : Hid (tx (Lib.decDigits k) = tx (Lib.itoa (k : Int))) := qhd (by
   rw [Lib.itoa, if_neg h0, Int.toNat_natCast])
  have CO : ∀ W, Calls Tryz.prog 21 #[.int .i64 (k : Int)] W fun e w' => e = .returned (.string (tx (Lib.decDigits k))) ∧ Below W.heap.size W w' := fun W => S_l1Plain k W hk
  refine qab fun R HR => ?_
  go_enter Tryz.func92, Tryz.ntmps92
  go_wp2_with fail
  refine (CO _).mono ?_
  rintro _ w1 ⟨rfl, h1⟩
  go_wp2
  all_goals (try go_returns)
  all_goals exact HR.out _ _ ⟨ret_str RV.out, bbel⟩

def opText (op : Int) : List UInt8 :=
 if op = 1 then [110, 117, 109] else if op = 2 then [116, 97, 107, 101] else if op = 3 then [112, 117, 116] else if op = 4 then [97, 100, 100] else if op = 5 then [110, 117, 108, 108] else 
 if op = 6 then [110, 101, 119] else if op = 7 then [103, 101, 116] else if op = 8 then [115, 101, 116] else if op = 9 then [99, 97, 108, 108] else if op = 10 then [114, 101, 116] else 
 if op = 11 then [122, 101, 114, 111] else if op = 12 then [110, 105, 108] else if op = 13 then [103, 111] else if op = 14 then [111, 117, 116] else if op = 15 then [99, 97, 115, 116] else 
 []
theorem sixteen {k : Nat} (h : k ≤ 15) : k = 0 ∨ k = 1 ∨ k = 2 ∨ k = 3 ∨ k = 4 ∨ k = 5 ∨ k = 6 ∨ k = 7 ∨ k = 8 ∨ k = 9 ∨ k = 10 ∨ k = 11 ∨ k = 12 ∨ k = 13 ∨ k = 14 ∨ k = 15 := by omega
theorem opText_len (op : Int) : (opText op).length ≤ 4 := by
 unfold opText
 by_cases h1 : op = 1
 ·rw [if_pos h1]; decide
 rw [if_neg h1]
 by_cases h2 : op = 2
 ·rw [if_pos h2]; decide
 rw [if_neg h2]
 by_cases h3 : op = 3
 ·rw [if_pos h3]; decide
 rw [if_neg h3]
 by_cases h4 : op = 4
 ·rw [if_pos h4]; decide
 rw [if_neg h4]
 by_cases h5 : op = 5
 ·rw [if_pos h5]; decide
 rw [if_neg h5]
 by_cases h6 : op = 6
 ·rw [if_pos h6]; decide
 rw [if_neg h6]
 by_cases h7 : op = 7
 ·rw [if_pos h7]; decide
 rw [if_neg h7]
 by_cases h8 : op = 8
 ·rw [if_pos h8]; decide
 rw [if_neg h8]
 by_cases h9 : op = 9
 ·rw [if_pos h9]; decide
 rw [if_neg h9]
 by_cases h10 : op = 10
 ·rw [if_pos h10]; decide
 rw [if_neg h10]
 by_cases h11 : op = 11
 ·rw [if_pos h11]; decide
 rw [if_neg h11]
 by_cases h12 : op = 12
 ·rw [if_pos h12]; decide
 rw [if_neg h12]
 by_cases h13 : op = 13
 ·rw [if_pos h13]; decide
 rw [if_neg h13]
 by_cases h14 : op = 14
 ·rw [if_pos h14]; decide
 rw [if_neg h14]
 by_cases h15 : op = 15
 ·rw [if_pos h15]; decide
 rw [if_neg h15]
 decide

theorem S_l2Ins (k : Nat) (w : World) (hk : k ≤ 15) :
  Calls Tryz.prog 91 #[.int .i64 (k : Int)] w fun e w' => e = .returned (.string (tx (opText (k : Int)))) ∧ Below w.heap.size w w' := by
 have hc : (w.alloc (.cells #[.string ⟨#[]⟩, .string ⟨#[110, 117, 109]⟩, .string ⟨#[116, 97, 107, 101]⟩, .string ⟨#[112, 117, 116]⟩, .string ⟨#[97, 100, 100]⟩, .string ⟨#[110, 117, 108, 108]⟩, .string ⟨#[110, 101, 119]⟩, .string ⟨#[103, 101, 116]⟩, .string ⟨#[115, 101, 116]⟩, .string ⟨#[99, 97, 108, 108]⟩, .string ⟨#[114, 101, 116]⟩, .string ⟨#[122, 101, 114, 111]⟩, .string ⟨#[110, 105, 108]⟩, .string ⟨#[103, 111]⟩, .string ⟨#[111, 117, 116]⟩, .string ⟨#[99, 97, 115, 116]⟩] 9)).cell? ⟨w.heap.size, k, none⟩ = some (.string (tx (opText (k : Int)))) := by
  rw [World.cell?_alloc_at (hn := rfl)]
  rcases sixteen hk with rfl | rfl | rfl | rfl | rfl | rfl | rfl | rfl | rfl | rfl | rfl | rfl | rfl | rfl | rfl | rfl
  all_goals rfl
 have h1 : (k : Int) < 16 := by omega
 refine qab fun R HR => ?_
 go_enter Tryz.func91, Tryz.ntmps91
 go_wp2
 all_goals (try go_returns)
 all_goals exact HR.out _ _ ⟨rfl, bbel⟩

theorem S_l2InsI (op : Int) (w : World) (hk : 0 ≤ op ∧ op ≤ 15) :
  Calls Tryz.prog 91 #[.int .i64 op] w fun e w' => e = .returned (.string (tx (opText op))) ∧ Below w.heap.size w w' := by
 obtain ⟨k, rfl⟩ : ∃ k : Nat, op = (k : Int) := ⟨op.toNat, by omega⟩
 exact S_l2Ins k w (by omega)

theorem empty_size {n : ByteArray} (h : n.toList.isEmpty = true) : n.size = 0 := by
 rw [ByteArray.toList_eq] at h
 have : n.data.toList = [] := by simpa using h
 have h2 : n.data.toList.length = 0 := by rw [this]; rfl
 rw [Array.length_toList] at h2
 exact h2
theorem namOk_six {n : ByteArray} (h : namOk n = true) : n.size ≤ 6 := by
 unfold namOk at h
 simp only [Bool.and_eq_true, decide_eq_true_eq] at h
 exact h.1.2
def isNumOp (op : Int) : Bool := op == 1 || op == 2 || op == 3 || op == 11 || op == 12 || op == 13
def isClsOp (op : Int) : Bool := op == 6 || op == 15
def isMemOp (op : Int) : Bool := op == 7 || op == 8 || op == 9
def insTxt (op a : Int) (n m : ByteArray) : List UInt8 :=
 if insOk op a n m then
  (if isNumOp op then opText op ++ ([32] ++ Lib.itoa a)
  else if isClsOp op then opText op ++ ([32] ++ n.data.toList)
  else if isMemOp op then opText op ++ ([32] ++ n.data.toList ++ [32] ++ m.data.toList)
  else opText op)
 else []
theorem insOk_parts {op a : Int} {n m : ByteArray} (h : insOk op a n m = true) : (1 ≤ op ∧ op ≤ 15) ∧ n.size ≤ 6 ∧ m.size ≤ 6 ∧ (isNumOp op = true → -9999 ≤ a ∧ a ≤ 9999) := by
 unfold insOk at h
 by_cases h1 : (op == 1) = true
 ·rw [if_pos h1] at h
  simp only [Bool.and_eq_true, decide_eq_true_eq, beq_iff_eq] at h h1
  exact ⟨by omega, by have := empty_size h.1.2; omega, by have := empty_size h.2; omega, fun _ => h.1.1⟩
 rw [if_neg h1] at h
 by_cases h2 : (op == 2 || op == 3) = true
 ·rw [if_pos h2] at h
  simp only [Bool.and_eq_true, Bool.or_eq_true, decide_eq_true_eq, beq_iff_eq] at h h2
  exact ⟨by omega, by have := empty_size h.1.2; omega, by have := empty_size h.2; omega, fun _ => by omega⟩
 rw [if_neg h2] at h
 by_cases h3 : (op == 11 || op == 12 || op == 13) = true
 ·rw [if_pos h3] at h
  simp only [Bool.and_eq_true, Bool.or_eq_true, decide_eq_true_eq, beq_iff_eq] at h h3
  exact ⟨by omega, by have := empty_size h.1.2; omega, by have := empty_size h.2; omega, fun _ => by omega⟩
 rw [if_neg h3] at h
 have hno : ¬ isNumOp op = true := by
  intro hc
  have h23 : op ≠ 2 ∧ op ≠ 3 := by
   constructor <;> (intro e; subst e; exact h2 rfl)
  have h45 : op ≠ 11 ∧ op ≠ 12 ∧ op ≠ 13 := by
   refine ⟨?_, ?_, ?_⟩ <;> (intro e; subst e; exact h3 rfl)
  have h11 : op ≠ 1 := by intro e; subst e; exact h1 rfl
  unfold isNumOp at hc
  simp [h11, h23, h45] at hc
 by_cases h4 : (op == 6 || op == 15) = true
 ·rw [if_pos h4] at h
  simp only [Bool.and_eq_true, Bool.or_eq_true, decide_eq_true_eq, beq_iff_eq] at h h4
  exact ⟨by omega, namOk_six h.1.2, by have := empty_size h.2; omega, fun hc => absurd hc hno⟩
 rw [if_neg h4] at h
 by_cases h5 : (op == 7 || op == 8 || op == 9) = true
 ·rw [if_pos h5] at h
  simp only [Bool.and_eq_true, Bool.or_eq_true, decide_eq_true_eq, beq_iff_eq] at h h5
  exact ⟨by omega, namOk_six h.1.2, namOk_six h.2, fun hc => absurd hc hno⟩
 rw [if_neg h5] at h
 clear h1 h2 h3 h4 h5
 rw [Bool.and_eq_true, Bool.and_eq_true, Bool.and_eq_true] at h
 obtain ⟨⟨⟨h6, _⟩, h7⟩, h8⟩ := h
 rw [Bool.or_eq_true, Bool.or_eq_true, Bool.or_eq_true, beq_iff_eq, beq_iff_eq, beq_iff_eq, beq_iff_eq] at h6
 exact ⟨by omega, by have := empty_size h7; omega, by have := empty_size h8; omega, fun hc => absurd hc hno⟩
theorem itoa_len {a : Int} (h : -9999 ≤ a ∧ a ≤ 9999) : (tx (Lib.itoa a)).size ≤ 5 := by
 rw [tx_size, Lib.itoa]
 by_cases h0 : a < 0
 ·rw [if_pos h0, List.length_cons, Lib.decDigits_length]
  have := nDig4 (k := a.natAbs) (by omega)
  omega
 ·rw [if_neg h0, Lib.decDigits_length]
  have := nDig4 (k := a.toNat) (by omega)
  omega
theorem insTxt_num {op a : Int} {n m : ByteArray} (ok : insOk op a n m = true) (h : isNumOp op = true) : tx (opText op) ++ ⟨#[32]⟩ ++ tx (Lib.itoa a) = tx (insTxt op a n m) := by
 rw [show (⟨#[32]⟩ : ByteArray) = tx [32] from rfl, tx_app, tx_app]
 unfold insTxt
 rw [if_pos ok, if_pos h, List.append_assoc]
theorem insTxt_cls {op a : Int} {n m : ByteArray} (ok : insOk op a n m = true) (h0 : isNumOp op = false) (h : isClsOp op = true) : tx (opText op) ++ ⟨#[32]⟩ ++ n = tx (insTxt op a n m) := by
 conv => lhs; rw [← tx_by n]
 rw [show (⟨#[32]⟩ : ByteArray) = tx [32] from rfl, tx_app, tx_app]
 unfold insTxt
 rw [if_pos ok, if_neg (by rw [h0]; decide), if_pos h, List.append_assoc]
theorem insTxt_mem {op a : Int} {n m : ByteArray} (ok : insOk op a n m = true) (h0 : isNumOp op = false) (h1 : isClsOp op = false) (h : isMemOp op = true) : tx (opText op) ++ ⟨#[32]⟩ ++ n ++ ⟨#[32]⟩ ++ m = tx (insTxt op a n m) := by
 conv => lhs; rw [← tx_by n, ← tx_by m]
 rw [show (⟨#[32]⟩ : ByteArray) = tx [32] from rfl, tx_app, tx_app, tx_app, tx_app]
 unfold insTxt
 rw [if_pos ok, if_neg (by rw [h0]; decide), if_neg (by rw [h1]; decide), if_pos h]
 simp
theorem insTxt_pln {op a : Int} {n m : ByteArray} (ok : insOk op a n m = true) (h0 : isNumOp op = false) (h1 : isClsOp op = false) (h2 : isMemOp op = false) : tx (opText op) = tx (insTxt op a n m) := by
 unfold insTxt
 rw [if_pos ok, if_neg (by rw [h0]; decide), if_neg (by rw [h1]; decide), if_neg (by rw [h2]; decide)]
theorem fifteen {k : Int} (h : 1 ≤ k ∧ k ≤ 15) : k = 1 ∨ k = 2 ∨ k = 3 ∨ k = 4 ∨ k = 5 ∨ k = 6 ∨ k = 7 ∨ k = 8 ∨ k = 9 ∨ k = 10 ∨ k = 11 ∨ k = 12 ∨ k = 13 ∨ k = 14 ∨ k = 15 := by omega

theorem S_InsText (op a : Int) (n m : ByteArray) (w : World) (hn : n.size ≤ maxLen) (hm : m.size ≤ maxLen) :
  Calls Tryz.prog 71 #[.agg #[.int .i64 op, .int .i64 a, .string n, .string m]] w fun e w' => e = .returned (.string (tx (insTxt op a n m))) ∧ Below w.heap.size w w' := by
 have CI : ∀ W, Calls Tryz.prog 78 #[.agg #[.int .i64 op, .int .i64 a, .string n, .string m]] W fun e w' => e = .returned (.bool (insOk op a n m)) ∧ Below W.heap.size W w' := fun W => S_InsOk op a n m W hn hm
 cases hok : insOk op a n m
 ·rw [hok] at CI
  have RV : Hid (tx (insTxt op a n m) = ⟨#[]⟩) := qhd (by unfold insTxt; rw [hok]; rfl)
  refine qab fun R HR => ?_
  go_enter Tryz.func71, Tryz.ntmps71
  go_wp2_with fail
  refine (CI _).mono ?_
  rintro _ w1 ⟨rfl, h1⟩
  go_wp2
  all_goals (try go_returns)
  all_goals exact HR.out _ _ ⟨by first | (rw [RV.out]; done) | (rw [RV.out]; rfl), bbel⟩
 rw [hok] at CI
 obtain ⟨hk, hn6, hm6, ha⟩ := insOk_parts hok
 have OK := qhd hok
 have HA := qhd ha
 have e1 : (tx [32]).size = 1 := rfl
 have e2 : (tx (opText op)).size ≤ 4 := by rw [tx_size]; exact opText_len _
 have e3 : ∀ x : ByteArray, (x ++ tx [32]).size = x.size + 1 := fun x => by rw [ByteArray.size_append]; rfl
 have CN : -9999 ≤ a ∧ a ≤ 9999 → ∀ W, Calls Tryz.prog 92 #[.int .i64 a] W fun e w' => e = .returned (.string (tx (Lib.itoa a))) ∧ Below W.heap.size W w' := fun h W => S_l1Num a W h
 clear hok ha hn hm
 refine qab fun R HR => ?_
 go_enter Tryz.func71, Tryz.ntmps71
 go_wp2_with fail
 refine (CI _).mono ?_
 rintro _ w1 ⟨rfl, h1⟩
 have h1s := (h1).size; (try simp only [qsz] at h1s)
 obtain ⟨h1ad, h1ao, h1ag, h1ap, h1ax, h1ay⟩ := bf1 (n := w.heap.size) h1
 go_wp2_with fail
 refine (S_l2InsI op _ (by omega)).mono ?_
 rintro _ w2 ⟨rfl, h2⟩
 have h2s := (h2).size; (try simp only [qsz] at h2s)
 obtain ⟨h2ad, h2ao, h2ag, h2ap, h2ax, h2ay⟩ := bf1 (n := w.heap.size) h2
 have hE : Below w.heap.size w w2 := bbel
 clear CI
 rcases fifteen hk with rfl | rfl | rfl | rfl | rfl | rfl | rfl | rfl | rfl | rfl | rfl | rfl | rfl | rfl | rfl
 all_goals
  go_wp2_with (go_at_call 92; refine (CN (HA.out rfl) _).mono ?_; rintro _ w3 ⟨rfl, h3⟩; have hE3 := hE.trans (h3.mono hE.size); have e5 := itoa_len (HA.out rfl))
  all_goals (try go_returns)
  all_goals first
   | exact HR.out _ _ ⟨ret_str (insTxt_num OK.out rfl), hE3⟩
   | exact HR.out _ _ ⟨ret_str (insTxt_cls OK.out rfl rfl), hE⟩
   | exact HR.out _ _ ⟨ret_str (insTxt_mem OK.out rfl rfl rfl), hE⟩
   | exact HR.out _ _ ⟨ret_str (insTxt_pln OK.out rfl rfl rfl), hE⟩

end Go.Proofs.YtfbonocadpknbaaGreatDoor
