/-
  Texts of mine, packed: Sig, Same, LoSame, SameP, LoPlan. No condition beside those of the single theorems.
-/
import Derived.Test.YtfbonocadpknbaaGreatDoorK1
import Derived.Test.YtfbonocadpknbaaGreatDoorK2
import Derived.Deep.LoopGhost
import Derived.Deep.CutRange
import Derived.Deep.CutBlock
set_option linter.unusedSimpArgs false
set_option linter.unusedVariables false
set_option maxHeartbeats 16000000
set_option maxRecDepth 100000
namespace Go.Proofs.YtfbonocadpknbaaGreatDoor
open Go.RowKit
def kndEq (a b : DKndKind) : Bool := a.fKind == b.fKind && a.fName.toList == b.fName.toList
def argAt (ys : List DKndKind) (k : Nat) (x : DKndKind) : Bool := match ys[k]? with | some y => kndEq x y | none => true
def sameArgs (xs ys : List DKndKind) : Bool := decide (xs.length = ys.length) && each (argAt ys) xs
def sameSig (a b : DClsMethod) : Bool := kndEq a.fRet b.fRet && sameArgs a.fArgs b.fArgs

theorem kndEq_iff {a b : DKndKind} : kndEq a b = true ↔ a = b := by
 obtain ⟨ak, an⟩ := a
 obtain ⟨bk, bn⟩ := b
 unfold kndEq
 simp only [Bool.and_eq_true, beq_iff_eq, DKndKind.mk.injEq]
 constructor
 ·rintro ⟨h1, h2⟩; exact ⟨h1, sameN_iff.1 (by simpa [sameN] using h2)⟩
 ·rintro ⟨h1, h2⟩; exact ⟨h1, by rw [h2]⟩

@[go_sem] theorem eg_knd : Tryz.prog.eqGuardType Tryz.prog.depth 61 = false := by kernel_rfl
@[go_sem] theorem eq_knd (a c : Int) (b d : ByteArray) (w : World) : (Op.equalIn 10000 61 (.agg #[.int .i64 a, .string b]) (.agg #[.int .i64 c, .string d])).run Tryz.prog w = .ok (a == c && b.toList == d.toList) w := by
 have iu3 := Tryz.underlying3
 have ia3 := Tryz.isAgg3
 have iz3 := Tryz.sizeOf3
 have iu9 := Tryz.underlying9
 have ia9 := Tryz.isAgg9
 have iz9 := Tryz.sizeOf9
 have hS : Tryz.prog.underlying 61 = some (.struct (Tryz.prog.fieldsOf 61)) := by kernel_rfl
 have hp : Tryz.prog.stoodInHeld 61 = false := by kernel_rfl
 rw [show (10000 : Nat) = 9999 + 1 from rfl, run_equalIn_agg w 9999 61 _ _ hS hp]
 simp only [Program.fieldsOf, Tryz.underlying61]
 go_simp
 by_cases h1 : a = c <;> by_cases h2 : b.toList = d.toList <;> simp [h1, h2]

def eqAt {α : Type} (f : α → α → Bool) (ys : List α) (k : Nat) (x : α) : Bool := match ys[k]? with | some y => f x y | none => true
def eqL {α : Type} (f : α → α → Bool) (xs ys : List α) : Bool := decide (xs.length = ys.length) && each (eqAt f ys) xs
theorem eqL_len {α : Type} {f : α → α → Bool} {xs ys : List α} (h : xs.length ≠ ys.length) : eqL f xs ys = false := by simp [eqL, h]
theorem eqL_stop {α : Type} {f : α → α → Bool} {xs ys : List α} (h : each (eqAt f ys) xs = false) : eqL f xs ys = false := by simp [eqL, h]
theorem eqL_done {α : Type} {f : α → α → Bool} {xs ys : List α} (h1 : xs.length = ys.length) (h : each (eqAt f ys) xs = true) : eqL f xs ys = true := by simp [eqL, h, h1]
def fldEq (a b : DClsField) : Bool := a.fName.toList == b.fName.toList && kndEq a.fKind b.fKind
def insEq (a b : DClsIns) : Bool := a.fOp == b.fOp && a.fA == b.fA && a.fName.toList == b.fName.toList && a.fMember.toList == b.fMember.toList
def tagEq (a b : DTagTag) : Bool := a.fKind == b.fKind && a.fName.toList == b.fName.toList
def mapEq (a b : DClsMap) : Bool := a.fAt == b.fAt && eqL tagEq a.fLocals b.fLocals && eqL tagEq a.fStack b.fStack
def mthEq (a b : DClsMethod) : Bool := a.fName.toList == b.fName.toList && sameSig a b && a.fLocals == b.fLocals && a.fStack == b.fStack && eqL insEq a.fCode b.fCode && eqL mapEq a.fMaps b.fMaps
def clsEq (a b : DClsClass) : Bool := a.fName.toList == b.fName.toList && a.fSuper.toList == b.fSuper.toList && eqL fldEq a.fFields b.fFields && eqL mthEq a.fMethods b.fMethods

@[go_sem] theorem eg_tag : Tryz.prog.eqGuardType Tryz.prog.depth 94 = false := by kernel_rfl
@[go_sem] theorem eq_tag (a c : Int) (b d : ByteArray) (w : World) : (Op.equalIn 10000 94 (.agg #[.int .i64 a, .string b]) (.agg #[.int .i64 c, .string d])).run Tryz.prog w = .ok (a == c && b.toList == d.toList) w := by
 have iu3 := Tryz.underlying3
 have ia3 := Tryz.isAgg3
 have iz3 := Tryz.sizeOf3
 have iu9 := Tryz.underlying9
 have ia9 := Tryz.isAgg9
 have iz9 := Tryz.sizeOf9
 have hS : Tryz.prog.underlying 94 = some (.struct (Tryz.prog.fieldsOf 94)) := by kernel_rfl
 have hp : Tryz.prog.stoodInHeld 94 = false := by kernel_rfl
 rw [show (10000 : Nat) = 9999 + 1 from rfl, run_equalIn_agg w 9999 94 _ _ hS hp]
 simp only [Program.fieldsOf, Tryz.underlying94]
 go_simp
 by_cases h1 : a = c <;> by_cases h2 : b.toList = d.toList <;> simp [h1, h2]
@[go_sem] theorem eg_ins4 : Tryz.prog.eqGuardType Tryz.prog.depth 91 = false := by kernel_rfl
@[go_sem] theorem eq_ins4 (a1 a2 b1 b2 : Int) (a3 a4 b3 b4 : ByteArray) (w : World) : (Op.equalIn 10000 91 (.agg #[.int .i64 a1, .int .i64 a2, .string a3, .string a4]) (.agg #[.int .i64 b1, .int .i64 b2, .string b3, .string b4])).run Tryz.prog w = .ok (a1 == b1 && a2 == b2 && a3.toList == b3.toList && a4.toList == b4.toList) w := by
 have iu3 := Tryz.underlying3
 have ia3 := Tryz.isAgg3
 have iz3 := Tryz.sizeOf3
 have iu9 := Tryz.underlying9
 have ia9 := Tryz.isAgg9
 have iz9 := Tryz.sizeOf9
 have hS : Tryz.prog.underlying 91 = some (.struct (Tryz.prog.fieldsOf 91)) := by kernel_rfl
 have hp : Tryz.prog.stoodInHeld 91 = false := by kernel_rfl
 rw [show (10000 : Nat) = 9999 + 1 from rfl, run_equalIn_agg w 9999 91 _ _ hS hp]
 simp only [Program.fieldsOf, Tryz.underlying91]
 go_simp
 by_cases h1 : a1 = b1 <;> by_cases h2 : a2 = b2 <;> by_cases h3 : a3.toList = b3.toList <;> by_cases h4 : a4.toList = b4.toList <;> simp [h1, h2, h3, h4]
@[go_sem] theorem eg_fld : Tryz.prog.eqGuardType Tryz.prog.depth 69 = false := by kernel_rfl
@[go_sem] theorem eq_fld (a c : ByteArray) (k1 k2 : Int) (n1 n2 : ByteArray) (w : World) : (Op.equalIn 10000 69 (.agg #[.string a, .int .i64 k1, .string n1]) (.agg #[.string c, .int .i64 k2, .string n2])).run Tryz.prog w = .ok (a.toList == c.toList && (k1 == k2 && n1.toList == n2.toList)) w := by
 have iu3 := Tryz.underlying3
 have ia3 := Tryz.isAgg3
 have iz3 := Tryz.sizeOf3
 have iu9 := Tryz.underlying9
 have ia9 := Tryz.isAgg9
 have iz9 := Tryz.sizeOf9
 have ik := Tryz.underlying61
 have iak : ∀ W : World, (Go.isAgg 61).run Tryz.prog W = .ok true W := Tryz.isAgg61
 have izk : ∀ W : World, (Go.sizeOf 61).run Tryz.prog W = .ok 2 W := Tryz.sizeOf61
 have hS : Tryz.prog.underlying 69 = some (.struct (Tryz.prog.fieldsOf 69)) := by kernel_rfl
 have hp : Tryz.prog.stoodInHeld 69 = false := by kernel_rfl
 have hSk : Tryz.prog.underlying 61 = some (.struct (Tryz.prog.fieldsOf 61)) := by kernel_rfl
 have hpk : Tryz.prog.stoodInHeld 61 = false := by kernel_rfl
 have hk : ∀ W : World, (Op.equalIn 9999 61 (.agg #[.int .i64 k1, .string n1]) (.agg #[.int .i64 k2, .string n2])).run Tryz.prog W = .ok (k1 == k2 && n1.toList == n2.toList) W := fun W => by
  rw [show (9999 : Nat) = 9998 + 1 from rfl, run_equalIn_agg W 9998 61 _ _ hSk hpk]
  simp only [Program.fieldsOf, Tryz.underlying61]
  go_simp
  by_cases h1 : k1 = k2 <;> by_cases h2 : n1.toList = n2.toList <;> simp [h1, h2]
 rw [show (10000 : Nat) = 9999 + 1 from rfl, run_equalIn_agg w 9999 69 _ _ hS hp]
 simp only [Program.fieldsOf, Tryz.underlying69]
 go_simp
 by_cases h1 : a.toList = c.toList <;> by_cases h2 : k1 = k2 <;> by_cases h3 : n1.toList = n2.toList <;> simp [h1, h2, h3, hk]

theorem sameArgs_eqL (xs ys : List DKndKind) : sameArgs xs ys = eqL kndEq xs ys := by
 have : argAt ys = eqAt kndEq ys := by funext k x; unfold argAt eqAt; cases ys[k]? <;> rfl
 unfold sameArgs eqL; rw [this]

theorem L_loTags (xs ys : List DTagTag) (v1 u1 : Value) (w : World) (s1 : Sl 2 rTagTag 0 w v1 xs) (t1 : Sl 2 rTagTag 0 w u1 ys) :
  Calls Tryz.prog 73 #[v1, u1] w fun e w' => e = .returned (.bool (eqL tagEq xs ys)) ∧ Below w.heap.size w w' := by
 obtain ⟨a, len, cap, rfl, hl, h1, h2, h3⟩ := id s1
 obtain ⟨a', len', cap', rfl, hl', h1', h2', h3'⟩ := id t1
 have m1 : len ≤ 9223372036854775807 := by unfold maxLen at h2; omega
 have m1' : len' ≤ 9223372036854775807 := by unfold maxLen at h2'; omega
 have HL := qhd hl
 have HL' := qhd hl'
 clear h2 hl h2' hl' h1 h1'
 obtain ⟨z, hz⟩ : ∃ z, z = eqL tagEq xs ys := ⟨_, rfl⟩
 have HZ := qhd hz
 rw [← hz]
 clear hz
 by_cases hlen : ¬ len = len'
 ·have RV : Hid (z = false) := qhd (by rw [HZ.out]; exact eqL_len (by rw [HL.out, HL'.out]; exact hlen))
  have i1 : ((len : Int) != (len' : Int)) = true := by simp; omega
  have i2 : ¬ (len : Int) = (len' : Int) := by omega
  refine qac fun R HR => ?_
  go_enter Tryz.func73, Tryz.ntmps73
  go_wp2
  (all_goals (try go_returns)); (all_goals exact HR.out _ _ ⟨by first | (rw [RV.out]; done) | (rw [RV.out]; rfl), bbel⟩)
 obtain rfl : len = len' := Decidable.byContradiction hlen
 clear hlen
 refine qac fun R HR => ?_
 go_enter Tryz.func73, Tryz.ntmps73
 go_wp2_with fail
 go_loopw [5] (fun i wr => ∃ k : Nat, k ≤ len ∧ i = .int .i64 k ∧ EachTo (eqAt tagEq ys) xs k = true ∧ Below w.heap.size w wr) (fun i _ => len - (intOf i).toNat)
 case atStart => exact ⟨0, Nat.zero_le _, rfl, rfl, bbel⟩
 case round =>
  obtain ⟨k, hk, rfl, ha, hb⟩ := hrel
  have HA := qhd ha
  clear ha
  by_cases hlt : k < len
  ·obtain ⟨b, off, rfl, _, _, hr⟩ := h3.stays qar (Keeps.of_below hb) (by omega)
   obtain ⟨b', off', rfl, _, _, hr'⟩ := h3'.stays qar (Keeps.of_below hb) (by omega)
   obtain ⟨x, cs, e0, _, e1, e4⟩ := hr k hlt
   obtain ⟨y, cs', f0, _, f1, f4⟩ := hr' k hlt
   obtain ⟨rfl, _⟩ := e4
   obtain ⟨rfl, _⟩ := f4
   have q0 : wr.cell? ⟨b, off + k * 2, none⟩ = some (.int .i64 x.fKind) := e1 0 _ rfl
   have p0 : wr.cell? ⟨b', off' + k * 2, none⟩ = some (.int .i64 y.fKind) := f1 0 _ rfl
   have q1 : wr.cell? ⟨b, off + k * 2 + 1, none⟩ = some (.string x.fName) := e1 1 _ rfl
   have p1 : wr.cell? ⟨b', off' + k * 2 + 1, none⟩ = some (.string y.fName) := f1 1 _ rfl
   have E0 := qhd e0
   have F0 := qhd f0
   clear e0 e1 f0 f1 hr hr'
   obtain ⟨q, hq⟩ : ∃ q, q = tagEq x y := ⟨_, rfl⟩
   have bo : ∀ W, (binOp .neq 94 (.agg #[.int .i64 x.fKind, .string x.fName]) (.agg #[.int .i64 y.fKind, .string y.fName])).run Tryz.prog W = .ok (.bool !q) W := fun W => by
    rw [hq]
    simp only [run_neq_struct, eq_tag]
    try simp [Result.andThen, tagEq]
   have HQ := qhd hq
   clear hq
   cases q
   ·have RV : Hid (z = false) := qhd (by rw [HZ.out]; exact eqL_stop (qan E0.out (by unfold eqAt; rw [F0.out]; exact HQ.out.symm)))
    go_wp2_with fail
    go_region
    go_wp2
    (all_goals (try go_returns)); (all_goals exact HR.out _ _ ⟨by first | (rw [RV.out]; done) | (rw [RV.out]; rfl), bbel⟩)
   ·go_wp2_with fail
    go_region
    go_wp2
    go_roundw
    case measure => simp [intOf]; omega
    case rel => exact ⟨k + 1, by omega, by go_num, EachTo.step HA.out E0.out (by unfold eqAt; rw [F0.out]; exact HQ.out.symm), bbel⟩
  ·obtain rfl : k = len := by omega
   have RV : Hid (z = true) := qhd (by rw [HZ.out]; exact eqL_done (HL.out.trans HL'.out.symm) (qau HA.out HL.out))
   go_wp2
   (all_goals (try go_returns)); (all_goals exact HR.out _ _ ⟨by first | (rw [RV.out]; done) | (rw [RV.out]; rfl), bbel⟩)

theorem L_loKinds (xs ys : List DKndKind) (v1 u1 : Value) (w : World) (s1 : Sl 2 rKndKind 0 w v1 xs) (t1 : Sl 2 rKndKind 0 w u1 ys) :
  Calls Tryz.prog 72 #[v1, u1] w fun e w' => e = .returned (.bool (eqL kndEq xs ys)) ∧ Below w.heap.size w w' := by
 obtain ⟨a, len, cap, rfl, hl, h1, h2, h3⟩ := id s1
 obtain ⟨a', len', cap', rfl, hl', h1', h2', h3'⟩ := id t1
 have m1 : len ≤ 9223372036854775807 := by unfold maxLen at h2; omega
 have m1' : len' ≤ 9223372036854775807 := by unfold maxLen at h2'; omega
 have HL := qhd hl
 have HL' := qhd hl'
 clear h2 hl h2' hl' h1 h1'
 obtain ⟨z, hz⟩ : ∃ z, z = eqL kndEq xs ys := ⟨_, rfl⟩
 have HZ := qhd hz
 rw [← hz]
 clear hz
 by_cases hlen : ¬ len = len'
 ·have RV : Hid (z = false) := qhd (by rw [HZ.out]; exact eqL_len (by rw [HL.out, HL'.out]; exact hlen))
  have i1 : ((len : Int) != (len' : Int)) = true := by simp; omega
  have i2 : ¬ (len : Int) = (len' : Int) := by omega
  refine qac fun R HR => ?_
  go_enter Tryz.func72, Tryz.ntmps72
  go_wp2
  (all_goals (try go_returns)); (all_goals exact HR.out _ _ ⟨by first | (rw [RV.out]; done) | (rw [RV.out]; rfl), bbel⟩)
 obtain rfl : len = len' := Decidable.byContradiction hlen
 clear hlen
 refine qac fun R HR => ?_
 go_enter Tryz.func72, Tryz.ntmps72
 go_wp2_with fail
 go_loopw [5] (fun i wr => ∃ k : Nat, k ≤ len ∧ i = .int .i64 k ∧ EachTo (eqAt kndEq ys) xs k = true ∧ Below w.heap.size w wr) (fun i _ => len - (intOf i).toNat)
 case atStart => exact ⟨0, Nat.zero_le _, rfl, rfl, bbel⟩
 case round =>
  obtain ⟨k, hk, rfl, ha, hb⟩ := hrel
  have HA := qhd ha
  clear ha
  by_cases hlt : k < len
  ·obtain ⟨b, off, rfl, _, _, hr⟩ := h3.stays qas (Keeps.of_below hb) (by omega)
   obtain ⟨b', off', rfl, _, _, hr'⟩ := h3'.stays qas (Keeps.of_below hb) (by omega)
   obtain ⟨x, cs, e0, _, e1, e4⟩ := hr k hlt
   obtain ⟨y, cs', f0, _, f1, f4⟩ := hr' k hlt
   obtain ⟨rfl, _⟩ := e4
   obtain ⟨rfl, _⟩ := f4
   have q0 : wr.cell? ⟨b, off + k * 2, none⟩ = some (.int .i64 x.fKind) := e1 0 _ rfl
   have p0 : wr.cell? ⟨b', off' + k * 2, none⟩ = some (.int .i64 y.fKind) := f1 0 _ rfl
   have q1 : wr.cell? ⟨b, off + k * 2 + 1, none⟩ = some (.string x.fName) := e1 1 _ rfl
   have p1 : wr.cell? ⟨b', off' + k * 2 + 1, none⟩ = some (.string y.fName) := f1 1 _ rfl
   have E0 := qhd e0
   have F0 := qhd f0
   clear e0 e1 f0 f1 hr hr'
   obtain ⟨q, hq⟩ : ∃ q, q = kndEq x y := ⟨_, rfl⟩
   have bo : ∀ W, (binOp .neq 61 (.agg #[.int .i64 x.fKind, .string x.fName]) (.agg #[.int .i64 y.fKind, .string y.fName])).run Tryz.prog W = .ok (.bool !q) W := fun W => by
    rw [hq]
    simp only [run_neq_struct, eq_knd]
    try simp [Result.andThen, kndEq]
   have HQ := qhd hq
   clear hq
   cases q
   ·have RV : Hid (z = false) := qhd (by rw [HZ.out]; exact eqL_stop (qan E0.out (by unfold eqAt; rw [F0.out]; exact HQ.out.symm)))
    go_wp2_with fail
    go_region
    go_wp2
    (all_goals (try go_returns)); (all_goals exact HR.out _ _ ⟨by first | (rw [RV.out]; done) | (rw [RV.out]; rfl), bbel⟩)
   ·go_wp2_with fail
    go_region
    go_wp2
    go_roundw
    case measure => simp [intOf]; omega
    case rel => exact ⟨k + 1, by omega, by go_num, EachTo.step HA.out E0.out (by unfold eqAt; rw [F0.out]; exact HQ.out.symm), bbel⟩
  ·obtain rfl : k = len := by omega
   have RV : Hid (z = true) := qhd (by rw [HZ.out]; exact eqL_done (HL.out.trans HL'.out.symm) (qau HA.out HL.out))
   go_wp2
   (all_goals (try go_returns)); (all_goals exact HR.out _ _ ⟨by first | (rw [RV.out]; done) | (rw [RV.out]; rfl), bbel⟩)

theorem L_loMethod (x y : DClsMethod) (v1 v2 v3 u1 u2 u3 : Value) (w : World) (s1 : Sl 2 rKndKind 0 w v1 x.fArgs) (s2 : Sl 4 rClsIns 0 w v2 x.fCode) (s3 : Sl 3 rClsMap 0 w v3 x.fMaps) (t1 : Sl 2 rKndKind 0 w u1 y.fArgs) (t2 : Sl 4 rClsIns 0 w u2 y.fCode) (t3 : Sl 3 rClsMap 0 w u3 y.fMaps) :
  Calls Tryz.prog 50 #[.agg #[.string x.fName, v1, .int .i64 x.fRet.fKind, .string x.fRet.fName, .int .i64 x.fLocals, .int .i64 x.fStack, v2, v3], .agg #[.string y.fName, u1, .int .i64 y.fRet.fKind, .string y.fRet.fName, .int .i64 y.fLocals, .int .i64 y.fStack, u2, u3]] w fun e w' => e = .returned (.bool (mthEq x y)) ∧ Below w.heap.size w w' := by
 obtain ⟨a1, l1, c1, rfl⟩ := s1.form
 obtain ⟨a2, l2, c2, rfl, hl2, g2, k2, h2⟩ := id s2
 obtain ⟨a3, l3, c3, rfl, hl3, g3, k3, h3⟩ := id s3
 obtain ⟨b1, m1, d1, rfl⟩ := t1.form
 obtain ⟨b2, m2, d2, rfl, hm2, i2, j2, o2⟩ := id t2
 obtain ⟨b3, m3, d3, rfl, hm3, i3, j3, o3⟩ := id t3
 have z1 : l2 ≤ 9223372036854775807 := by unfold maxLen at k2; omega
 have z2 : l3 ≤ 9223372036854775807 := by unfold maxLen at k3; omega
 have z3 : m2 ≤ 9223372036854775807 := by unfold maxLen at j2; omega
 have z4 : m3 ≤ 9223372036854775807 := by unfold maxLen at j3; omega
 obtain ⟨z, hz⟩ : ∃ z, z = mthEq x y := ⟨_, rfl⟩
 obtain ⟨qa, hqa⟩ : ∃ q, q = eqL kndEq x.fArgs y.fArgs := ⟨_, rfl⟩
 obtain ⟨qr, hqr⟩ : ∃ q, q = kndEq x.fRet y.fRet := ⟨_, rfl⟩
 obtain ⟨qn, hqn⟩ : ∃ q, q = (x.fName.toList == y.fName.toList) := ⟨_, rfl⟩
 obtain ⟨ql, hql⟩ : ∃ q, q = (x.fLocals == y.fLocals) := ⟨_, rfl⟩
 obtain ⟨qs, hqs⟩ : ∃ q, q = (x.fStack == y.fStack) := ⟨_, rfl⟩
 have CA : ∀ W, Below w.heap.size w W → Calls Tryz.prog 72 #[.slice a1 l1 c1, .slice b1 m1 d1] W fun e w' => e = .returned (.bool qa) ∧ Below W.heap.size W w' := fun W hW => by
  rw [hqa]; exact L_loKinds _ _ _ _ W (s1.stays qas (Keeps.of_below hW)) (t1.stays qas (Keeps.of_below hW))
 have br : ∀ W, (binOp .neq 61 (.agg #[.int .i64 x.fRet.fKind, .string x.fRet.fName]) (.agg #[.int .i64 y.fRet.fKind, .string y.fRet.fName])).run Tryz.prog W = .ok (.bool !qr) W := fun W => by
  rw [hqr]
  simp only [run_neq_struct, eq_knd]
  try simp [Result.andThen, kndEq]
 have HZ : Hid (z = (qn && (qr && qa) && ql && qs && eqL insEq x.fCode y.fCode && eqL mapEq x.fMaps y.fMaps)) := qhd (by rw [hz, hqa, hqr, hqn, hql, hqs, ← sameArgs_eqL]; rfl)
 rw [← hz]
 have n1 : (x.fName.toList == y.fName.toList) = qn := hqn.symm
 have n2 : (x.fLocals == y.fLocals) = ql := hql.symm
 have n3 : (x.fStack == y.fStack) = qs := hqs.symm
 have n4 : (x.fLocals != y.fLocals) = !ql := by rw [bne, n2]
 have n5 : (x.fStack != y.fStack) = !qs := by rw [bne, n3]
 have HL2 := qhd hl2
 have HL3 := qhd hl3
 have HM2 := qhd hm2
 have HM3 := qhd hm3
 clear hz hqa hqr hqn hql hqs s1 s2 s3 t1 t2 t3 g2 g3 k2 k3 i2 i3 j2 j3 hl2 hl3 hm2 hm3
 refine qac fun R HR => ?_
 go_enter Tryz.func50, Tryz.ntmps50
 cases qn
 ·have RV : Hid (z = false) := qhd (by rw [HZ.out]; rfl)
  (go_wp2; (all_goals (try go_returns)); (all_goals exact HR.out _ _ ⟨by first | (rw [RV.out]; done) | (rw [RV.out]; rfl), bbel⟩))
 go_wp2_with fail
 (with_reducible refine (CA _ (bbel)).mono ?_)
 rintro _ w1 ⟨rfl, g1⟩
 have g1s := (g1).size; (try simp only [qsz] at g1s)
 obtain ⟨g1ad, g1ao, g1ag, g1ap, g1ax, g1ay, g1ac1, g1af1, g1az1⟩ := bf2 (n := w.heap.size) g1
 cases qa
 ·have RV : Hid (z = false) := qhd (by rw [HZ.out]; (cases qr <;> rfl))
  (go_wp2; (all_goals (try go_returns)); (all_goals exact HR.out _ _ ⟨by first | (rw [RV.out]; done) | (rw [RV.out]; rfl), bbel⟩))
 cases qr
 ·have RV : Hid (z = false) := qhd (by rw [HZ.out]; rfl)
  (go_wp2; (all_goals (try go_returns)); (all_goals exact HR.out _ _ ⟨by first | (rw [RV.out]; done) | (rw [RV.out]; rfl), bbel⟩))
 cases ql
 ·have RV : Hid (z = false) := qhd (by rw [HZ.out]; simp)
  (go_wp2; (all_goals (try go_returns)); (all_goals exact HR.out _ _ ⟨by first | (rw [RV.out]; done) | (rw [RV.out]; rfl), bbel⟩))
 cases qs
 ·have RV : Hid (z = false) := qhd (by rw [HZ.out]; simp)
  (go_wp2; (all_goals (try go_returns)); (all_goals exact HR.out _ _ ⟨by first | (rw [RV.out]; done) | (rw [RV.out]; rfl), bbel⟩))
 by_cases e2 : ¬ l2 = m2
 ·have i1 : ((l2 : Int) != (m2 : Int)) = true := by simp; omega
  have i2 : ¬ (l2 : Int) = (m2 : Int) := by omega
  have RV : Hid (z = false) := qhd (by rw [HZ.out]; (rw [eqL_len (f := insEq) (by rw [HL2.out, HM2.out]; exact e2)]; simp))
  (go_wp2; (all_goals (try go_returns)); (all_goals exact HR.out _ _ ⟨by first | (rw [RV.out]; done) | (rw [RV.out]; rfl), bbel⟩))
 obtain rfl : l2 = m2 := Decidable.byContradiction e2
 by_cases e3 : ¬ l3 = m3
 ·have i1 : ((l3 : Int) != (m3 : Int)) = true := by simp; omega
  have i2 : ¬ (l3 : Int) = (m3 : Int) := by omega
  have RV : Hid (z = false) := qhd (by rw [HZ.out]; (rw [eqL_len (f := mapEq) (by rw [HL3.out, HM3.out]; exact e3)]; simp))
  (go_wp2; (all_goals (try go_returns)); (all_goals exact HR.out _ _ ⟨by first | (rw [RV.out]; done) | (rw [RV.out]; rfl), bbel⟩))
 obtain rfl : l3 = m3 := Decidable.byContradiction e3
 have HZ2 : Hid (z = (eqL insEq x.fCode y.fCode && eqL mapEq x.fMaps y.fMaps)) := qhd (by rw [HZ.out]; simp)
 clear e2 e3 n1 HZ
 have hE : Below w.heap.size w w1 := bbel
 have A5 : w1.cell? ⟨w.heap.size, 6, none⟩ = some (.slice a2 l2 c2) := by go_simp
 have A6 : w1.cell? ⟨w.heap.size, 7, none⟩ = some (.slice a3 l3 c3) := by go_simp
 have B5 : w1.cell? ⟨w.heap.size + 1, 6, none⟩ = some (.slice b2 l2 d2) := by go_simp
 have B6 : w1.cell? ⟨w.heap.size + 1, 7, none⟩ = some (.slice b3 l3 d3) := by go_simp
 have HA5 := qhd A5
 have HA6 := qhd A6
 have HB5 := qhd B5
 have HB6 := qhd B6
 clear A5 A6 B5 B6
 go_wp2_with fail
 clear g1ad g1ag g1ax g1ay g1ao g1ap CA br n2 n3 n4 n5
 go_loopw [5] (fun i wr => ∃ k : Nat, k ≤ l2 ∧ i = .int .i64 k ∧ EachTo (eqAt insEq y.fCode) x.fCode k = true ∧ Below w1.heap.size w1 wr) (fun i _ => l2 - (intOf i).toNat)
 case atStart => exact ⟨0, Nat.zero_le _, rfl, rfl, Below.refl _ _⟩
 case round =>
  obtain ⟨k, hk, rfl, ha, hb⟩ := hrel
  have HA := qhd ha
  clear ha
  have hbx := hb.size
  have c1 := qad hb HA5.out
  have c2 := qad hb HB5.out
  by_cases hlt : k < l2
  ·have hEb := hE.trans (hb.mono hE.size)
   obtain ⟨b, off, rfl, _, _, hr⟩ := h2.stays qba (Keeps.of_below hEb) (by omega)
   obtain ⟨b', off', rfl, _, _, hr'⟩ := o2.stays qba (Keeps.of_below hEb) (by omega)
   obtain ⟨i, cs, e0, _, e1, e4⟩ := hr k hlt
   obtain ⟨j, cs', f0, _, f1, f4⟩ := hr' k hlt
   obtain ⟨rfl, _⟩ := e4
   obtain ⟨rfl, _⟩ := f4
   have q0 : wr.cell? ⟨b, off + k * 4, none⟩ = some (.int .i64 i.fOp) := e1 0 _ rfl
   have q1 : wr.cell? ⟨b, off + k * 4 + 1, none⟩ = some (.int .i64 i.fA) := e1 1 _ rfl
   have q2 : wr.cell? ⟨b, off + k * 4 + 2, none⟩ = some (.string i.fName) := e1 2 _ rfl
   have q3 : wr.cell? ⟨b, off + k * 4 + 3, none⟩ = some (.string i.fMember) := e1 3 _ rfl
   have r0 : wr.cell? ⟨b', off' + k * 4, none⟩ = some (.int .i64 j.fOp) := f1 0 _ rfl
   have r1 : wr.cell? ⟨b', off' + k * 4 + 1, none⟩ = some (.int .i64 j.fA) := f1 1 _ rfl
   have r2 : wr.cell? ⟨b', off' + k * 4 + 2, none⟩ = some (.string j.fName) := f1 2 _ rfl
   have r3 : wr.cell? ⟨b', off' + k * 4 + 3, none⟩ = some (.string j.fMember) := f1 3 _ rfl
   have E0 := qhd e0
   have F0 := qhd f0
   clear e0 e1 f0 f1 hr hr'
   obtain ⟨q, hq⟩ : ∃ q, q = insEq i j := ⟨_, rfl⟩
   have bo : ∀ W, (binOp .neq 91 (.agg #[.int .i64 i.fOp, .int .i64 i.fA, .string i.fName, .string i.fMember]) (.agg #[.int .i64 j.fOp, .int .i64 j.fA, .string j.fName, .string j.fMember])).run Tryz.prog W = .ok (.bool !q) W := fun W => by
    rw [hq]
    simp only [run_neq_struct, eq_ins4]
    try simp [Result.andThen, insEq]
   have HQ := qhd hq
   clear hq
   cases q
   ·have RV : Hid (z = false) := qhd (by rw [HZ2.out, eqL_stop (qan E0.out (by unfold eqAt; rw [F0.out]; exact HQ.out.symm))]; rfl)
    go_wp2_with fail
    go_region
    go_wp2
    all_goals (try go_returns)
    all_goals exact HR.out _ _ ⟨by first | (rw [RV.out]; done) | (rw [RV.out]; rfl), hEb.drew⟩
   ·go_wp2_with fail
    go_region
    go_wp2
    go_roundw
    case measure => simp [intOf]; omega
    case rel => exact ⟨k + 1, by omega, by go_num, EachTo.step HA.out E0.out (by unfold eqAt; rw [F0.out]; exact HQ.out.symm), hb.drew⟩
  ·obtain rfl : k = l2 := by omega
   have CD : Hid (eqL insEq x.fCode y.fCode = true) := qhd (eqL_done (HL2.out.trans HM2.out.symm) (qau HA.out HL2.out))
   have HZ3 : Hid (z = eqL mapEq x.fMaps y.fMaps) := qhd (by rw [HZ2.out, CD.out]; rfl)
   clear HA HZ2
   obtain ⟨wq, hwq⟩ : ∃ x, x = wr := ⟨_, rfl⟩
   subst hwq
   have hEq := hE.trans (hb.mono hE.size)
   have C1 := qhd (qad hb HA6.out)
   have C2 := qhd (qad hb HB6.out)
   go_wp2_with fail
   clear c1 c2
   go_loopw [6] (fun i wr => ∃ j : Nat, j ≤ l3 ∧ i = .int .i64 j ∧ EachTo (eqAt mapEq y.fMaps) x.fMaps j = true ∧ Below wq.heap.size wq wr) (fun i _ => l3 - (intOf i).toNat)
   case atStart => exact ⟨0, Nat.zero_le _, rfl, rfl, Below.refl _ _⟩
   case round =>
    obtain ⟨j, hj, rfl, ha, hb2⟩ := hrel
    have HA := qhd ha
    clear ha
    have hb2x := hb2.size
    have c1 := qad hb2 C1.out
    have c2 := qad hb2 C2.out
    have hEb := hEq.trans (hb2.mono hEq.size)
    by_cases hlt : j < l3
    rotate_left
    ·obtain rfl : j = l3 := by omega
     have RV : Hid (z = true) := qhd (by rw [HZ3.out]; exact eqL_done (HL3.out.trans HM3.out.symm) (qau HA.out HL3.out))
     go_wp2
     all_goals (try go_returns)
     all_goals exact HR.out _ _ ⟨by first | (rw [RV.out]; done) | (rw [RV.out]; rfl), hEb⟩
    obtain ⟨b, off, rfl, _, _, hr⟩ := h3.stays qaz (Keeps.of_below hEb) (by omega)
    obtain ⟨b', off', rfl, _, _, hr'⟩ := o3.stays qaz (Keeps.of_below hEb) (by omega)
    obtain ⟨m, cs, e0, _, e1, e4⟩ := hr j hlt
    obtain ⟨n, cs', f0, _, f1, f4⟩ := hr' j hlt
    obtain ⟨x1, x2, rfl, p1, p2⟩ := e4
    obtain ⟨y1, y2, rfl, n1, n2⟩ := f4
    obtain ⟨pa1, pl1, pc1, rfl⟩ := p1.form
    obtain ⟨pa2, pl2, pc2, rfl⟩ := p2.form
    obtain ⟨na1, nl1, nc1, rfl⟩ := n1.form
    obtain ⟨na2, nl2, nc2, rfl⟩ := n2.form
    have q0 := In.cell (show wr.cell? ⟨b, off + j * 3, none⟩ = some (.int .i64 m.fAt) from e1 0 _ rfl)
    have q1 := In.cell (show wr.cell? ⟨b, off + j * 3 + 1, none⟩ = some (.slice pa1 pl1 pc1) from e1 1 _ rfl)
    have q2 := In.cell (show wr.cell? ⟨b, off + j * 3 + 2, none⟩ = some (.slice pa2 pl2 pc2) from e1 2 _ rfl)
    have r0 := In.cell (show wr.cell? ⟨b', off' + j * 3, none⟩ = some (.int .i64 n.fAt) from f1 0 _ rfl)
    have r1 := In.cell (show wr.cell? ⟨b', off' + j * 3 + 1, none⟩ = some (.slice na1 nl1 nc1) from f1 1 _ rfl)
    have r2 := In.cell (show wr.cell? ⟨b', off' + j * 3 + 2, none⟩ = some (.slice na2 nl2 nc2) from f1 2 _ rfl)
    have E0 := qhd e0
    have F0 := qhd f0
    go_wp2_with fail
    have d1 := In.cell c1
    have d2 := In.cell c2
    obtain ⟨t1, ht1⟩ : ∃ q, q = (m.fAt == n.fAt) := ⟨_, rfl⟩
    obtain ⟨t2, ht2⟩ : ∃ q, q = eqL tagEq m.fLocals n.fLocals := ⟨_, rfl⟩
    obtain ⟨t3, ht3⟩ : ∃ q, q = eqL tagEq m.fStack n.fStack := ⟨_, rfl⟩
    have MQ : Hid (mapEq m n = (t1 && t2 && t3)) := qhd (by rw [ht1, ht2, ht3]; rfl)
    have T2 : ∀ y : In wr, Calls Tryz.prog 73 #[.slice pa1 pl1 pc1, .slice na1 nl1 nc1] y.x fun e w' => e = .returned (.bool t2) ∧ Below y.x.heap.size y.x w' := fun y => by
     rw [ht2]; exact L_loTags _ _ _ _ y.x (p1.stays qar (Keeps.of_below y.h)) (n1.stays qar (Keeps.of_below y.h))
    have T3 : ∀ y : In wr, Calls Tryz.prog 73 #[.slice pa2 pl2 pc2, .slice na2 nl2 nc2] y.x fun e w' => e = .returned (.bool t3) ∧ Below y.x.heap.size y.x w' := fun y => by
     rw [ht3]; exact L_loTags _ _ _ _ y.x (p2.stays qar (Keeps.of_below y.h)) (n2.stays qar (Keeps.of_below y.h))
    have n3 : (m.fAt != n.fAt) = !t1 := by rw [bne, ← ht1]
    clear e0 e1 f0 f1 hr hr' ht2 ht3 c1 c2 p1 p2 n1 n2
    have fin : ∀ q, q = (t1 && t2 && t3) → q = false → z = false := fun q h1 h2 => by
     rw [HZ3.out]
     exact eqL_stop (qan E0.out (by unfold eqAt; rw [F0.out]; show mapEq m n = false; rw [MQ.out, ← h1, h2]))
    have FIN := qhd fin
    clear fin
    have g1 : (j : Int) < (l3 : Int) := by omega
    have g2 : (0 : Int) ≤ (j : Int) := by omega
    cases t1
    ·have hne : (m.fAt == n.fAt) = false := ht1.symm
     have hne2 : ¬ m.fAt = n.fAt := by simpa using hne
     clear ht1
     have RV : Hid (z = false) := qhd (FIN.out _ rfl (by simp))
     refine qal (by kernel_rfl) (by kernel_rfl) ?_
     repeat (go_big_quiet_step (first | (go_at_call 73; first | (with_reducible exact Calls.ins (T2 _)) | (with_reducible exact Calls.ins (T3 _)))))
     refine wpQuiet_nil ?_
     rintro wZ ⟨⟨wE, hwE⟩, hq⟩
     obtain rfl : wE = wZ := hq.symm
     clear hq
     have hwEs := hwE.size
     (try dsimp only)
     go_wp2
     all_goals (try go_returns)
     all_goals exact HR.out _ _ ⟨by first | (rw [RV.out]; done) | (rw [RV.out]; rfl), hEb.trans (hwE.mono hEb.size)⟩
    have heq : m.fAt = n.fAt := by simpa using ht1.symm
    clear ht1
    cases t2
    ·have RV : Hid (z = false) := qhd (FIN.out _ rfl (by simp))
     refine qal (by kernel_rfl) (by kernel_rfl) ?_
     repeat (go_big_quiet_step (first | (go_at_call 73; first | (with_reducible exact Calls.ins (T2 _)) | (with_reducible exact Calls.ins (T3 _)))))
     refine wpQuiet_nil ?_
     rintro wZ ⟨⟨wE, hwE⟩, hq⟩
     obtain rfl : wE = wZ := hq.symm
     clear hq
     have hwEs := hwE.size
     (try dsimp only)
     go_wp2
     all_goals (try go_returns)
     all_goals exact HR.out _ _ ⟨by first | (rw [RV.out]; done) | (rw [RV.out]; rfl), hEb.trans (hwE.mono hEb.size)⟩
    cases t3
    ·have RV : Hid (z = false) := qhd (FIN.out _ rfl (by simp))
     refine qal (by kernel_rfl) (by kernel_rfl) ?_
     repeat (go_big_quiet_step (first | (go_at_call 73; first | (with_reducible exact Calls.ins (T2 _)) | (with_reducible exact Calls.ins (T3 _)))))
     refine wpQuiet_nil ?_
     rintro wZ ⟨⟨wE, hwE⟩, hq⟩
     obtain rfl : wE = wZ := hq.symm
     clear hq
     have hwEs := hwE.size
     (try dsimp only)
     go_wp2
     all_goals (try go_returns)
     all_goals exact HR.out _ _ ⟨by first | (rw [RV.out]; done) | (rw [RV.out]; rfl), hEb.trans (hwE.mono hEb.size)⟩
    refine qal (by kernel_rfl) (by kernel_rfl) ?_
    repeat (go_big_quiet_step (first | (go_at_call 73; first | (with_reducible exact Calls.ins (T2 _)) | (with_reducible exact Calls.ins (T3 _)))))
    refine wpQuiet_nil ?_
    rintro wZ ⟨⟨wE, hwE⟩, hq⟩
    obtain rfl : wE = wZ := hq.symm
    clear hq
    have hwEs := hwE.size
    (try dsimp only)
    go_wp2
    go_roundw
    case measure => simp [intOf]; omega
    case rel => exact ⟨j + 1, by omega, by go_num, EachTo.step HA.out E0.out (by unfold eqAt; rw [F0.out]; exact MQ.out), hb2.trans (hwE.mono hb2x)⟩

theorem L_loClass (x y : DClsClass) (v1 v2 u1 u2 : Value) (w : World) (s1 : Sl 3 rClsField 0 w v1 x.fFields) (s2 : Sl 8 rClsMethod 0 w v2 x.fMethods) (t1 : Sl 3 rClsField 0 w u1 y.fFields) (t2 : Sl 8 rClsMethod 0 w u2 y.fMethods) :
  Calls Tryz.prog 26 #[.agg #[.string x.fName, .string x.fSuper, v1, v2], .agg #[.string y.fName, .string y.fSuper, u1, u2]] w fun e w' => e = .returned (.bool (clsEq x y)) ∧ Below w.heap.size w w' := by
 obtain ⟨a2, l2, c2, rfl, hl2, g2, k2, h2⟩ := id s1
 obtain ⟨a3, l3, c3, rfl, hl3, g3, k3, h3⟩ := id s2
 obtain ⟨b2, m2, d2, rfl, hm2, i2, j2, o2⟩ := id t1
 obtain ⟨b3, m3, d3, rfl, hm3, i3, j3, o3⟩ := id t2
 have z1 : l2 ≤ 9223372036854775807 := by unfold maxLen at k2; omega
 have z2 : l3 ≤ 9223372036854775807 := by unfold maxLen at k3; omega
 have z3 : m2 ≤ 9223372036854775807 := by unfold maxLen at j2; omega
 have z4 : m3 ≤ 9223372036854775807 := by unfold maxLen at j3; omega
 obtain ⟨z, hz⟩ : ∃ z, z = clsEq x y := ⟨_, rfl⟩
 obtain ⟨qn, hqn⟩ : ∃ q, q = (x.fName.toList == y.fName.toList) := ⟨_, rfl⟩
 obtain ⟨qs, hqs⟩ : ∃ q, q = (x.fSuper.toList == y.fSuper.toList) := ⟨_, rfl⟩
 have HZ : Hid (z = (qn && qs && eqL fldEq x.fFields y.fFields && eqL mthEq x.fMethods y.fMethods)) := qhd (by rw [hz, hqn, hqs]; rfl)
 rw [← hz]
 have n1 : (x.fName.toList == y.fName.toList) = qn := hqn.symm
 have n2 : (x.fSuper.toList == y.fSuper.toList) = qs := hqs.symm
 have HL2 := qhd hl2
 have HL3 := qhd hl3
 have HM2 := qhd hm2
 have HM3 := qhd hm3
 clear hz hqn hqs s1 s2 t1 t2 g2 g3 k2 k3 i2 i3 j2 j3 hl2 hl3 hm2 hm3
 refine qac fun R HR => ?_
 go_enter Tryz.func26, Tryz.ntmps26
 cases qn
 ·have RV : Hid (z = false) := qhd (by rw [HZ.out]; rfl)
  (go_wp2; (all_goals (try go_returns)); (all_goals exact HR.out _ _ ⟨by first | (rw [RV.out]; done) | (rw [RV.out]; rfl), bbel⟩))
 cases qs
 ·have RV : Hid (z = false) := qhd (by rw [HZ.out]; rfl)
  (go_wp2; (all_goals (try go_returns)); (all_goals exact HR.out _ _ ⟨by first | (rw [RV.out]; done) | (rw [RV.out]; rfl), bbel⟩))
 by_cases e2 : ¬ l2 = m2
 ·have i1 : ((l2 : Int) != (m2 : Int)) = true := by simp; omega
  have i2 : ¬ (l2 : Int) = (m2 : Int) := by omega
  have RV : Hid (z = false) := qhd (by rw [HZ.out]; (rw [eqL_len (f := fldEq) (by rw [HL2.out, HM2.out]; exact e2)]; simp))
  (go_wp2; (all_goals (try go_returns)); (all_goals exact HR.out _ _ ⟨by first | (rw [RV.out]; done) | (rw [RV.out]; rfl), bbel⟩))
 obtain rfl : l2 = m2 := Decidable.byContradiction e2
 by_cases e3 : ¬ l3 = m3
 ·have i1 : ((l3 : Int) != (m3 : Int)) = true := by simp; omega
  have i2 : ¬ (l3 : Int) = (m3 : Int) := by omega
  have RV : Hid (z = false) := qhd (by rw [HZ.out]; (rw [eqL_len (f := mthEq) (by rw [HL3.out, HM3.out]; exact e3)]; simp))
  (go_wp2; (all_goals (try go_returns)); (all_goals exact HR.out _ _ ⟨by first | (rw [RV.out]; done) | (rw [RV.out]; rfl), bbel⟩))
 obtain rfl : l3 = m3 := Decidable.byContradiction e3
 have HZ2 : Hid (z = (eqL fldEq x.fFields y.fFields && eqL mthEq x.fMethods y.fMethods)) := qhd (by rw [HZ.out]; simp)
 clear e2 e3 HZ
 go_wp2_with fail
 clear n1 n2
 obtain ⟨w1, hw1⟩ : ∃ w1, w1 = (w.alloc (.cells #[.string x.fName, .string x.fSuper, .slice a2 l2 c2, .slice a3 l3 c3] 37)).alloc (.cells #[.string y.fName, .string y.fSuper, .slice b2 l2 d2, .slice b3 l3 d3] 37) := ⟨_, rfl⟩
 rw [← hw1]
 have hE : Below w.heap.size w w1 := by rw [hw1]; exact bbel
 have HA5 : Hid (w1.cell? ⟨w.heap.size, 2, none⟩ = some (.slice a2 l2 c2)) := qhd (by rw [hw1]; go_simp)
 have HA6 : Hid (w1.cell? ⟨w.heap.size, 3, none⟩ = some (.slice a3 l3 c3)) := qhd (by rw [hw1]; go_simp)
 have HB5 : Hid (w1.cell? ⟨w.heap.size + 1, 2, none⟩ = some (.slice b2 l2 d2)) := qhd (by rw [hw1]; go_simp)
 have HB6 : Hid (w1.cell? ⟨w.heap.size + 1, 3, none⟩ = some (.slice b3 l3 d3)) := qhd (by rw [hw1]; go_simp)
 clear hw1
 go_loopw [5] (fun i wr => ∃ k : Nat, k ≤ l2 ∧ i = .int .i64 k ∧ EachTo (eqAt fldEq y.fFields) x.fFields k = true ∧ Below w1.heap.size w1 wr) (fun i _ => l2 - (intOf i).toNat)
 case atStart => exact ⟨0, Nat.zero_le _, rfl, rfl, Below.refl _ _⟩
 case round =>
  obtain ⟨k, hk, rfl, ha, hb⟩ := hrel
  have HA := qhd ha
  clear ha
  have hbx := hb.size
  have c1 := qad hb HA5.out
  have c2 := qad hb HB5.out
  by_cases hlt : k < l2
  ·have hEb := hE.trans (hb.mono hE.size)
   obtain ⟨b, off, rfl, _, _, hr⟩ := h2.stays qay (Keeps.of_below hEb) (by omega)
   obtain ⟨b', off', rfl, _, _, hr'⟩ := o2.stays qay (Keeps.of_below hEb) (by omega)
   obtain ⟨i, cs, e0, _, e1, e4⟩ := hr k hlt
   obtain ⟨j, cs', f0, _, f1, f4⟩ := hr' k hlt
   obtain ⟨rfl, _⟩ := e4
   obtain ⟨rfl, _⟩ := f4
   have q0 : wr.cell? ⟨b, off + k * 3, none⟩ = some (.string i.fName) := e1 0 _ rfl
   have q1 : wr.cell? ⟨b, off + k * 3 + 1, none⟩ = some (.int .i64 i.fKind.fKind) := e1 1 _ rfl
   have q2 : wr.cell? ⟨b, off + k * 3 + 2, none⟩ = some (.string i.fKind.fName) := e1 2 _ rfl
   have r0 : wr.cell? ⟨b', off' + k * 3, none⟩ = some (.string j.fName) := f1 0 _ rfl
   have r1 : wr.cell? ⟨b', off' + k * 3 + 1, none⟩ = some (.int .i64 j.fKind.fKind) := f1 1 _ rfl
   have r2 : wr.cell? ⟨b', off' + k * 3 + 2, none⟩ = some (.string j.fKind.fName) := f1 2 _ rfl
   have E0 := qhd e0
   have F0 := qhd f0
   clear e0 e1 f0 f1 hr hr'
   obtain ⟨q, hq⟩ : ∃ q, q = fldEq i j := ⟨_, rfl⟩
   have bo : ∀ W, (binOp .neq 69 (.agg #[.string i.fName, .int .i64 i.fKind.fKind, .string i.fKind.fName]) (.agg #[.string j.fName, .int .i64 j.fKind.fKind, .string j.fKind.fName])).run Tryz.prog W = .ok (.bool !q) W := fun W => by
    rw [hq]
    simp only [run_neq_struct, eq_fld]
    try simp [Result.andThen, fldEq, kndEq]
   have HQ := qhd hq
   clear hq
   cases q
   ·have RV : Hid (z = false) := qhd (by rw [HZ2.out, eqL_stop (qan E0.out (by unfold eqAt; rw [F0.out]; exact HQ.out.symm))]; rfl)
    go_wp2_with fail
    go_region
    go_wp2
    all_goals (try go_returns)
    all_goals exact HR.out _ _ ⟨by first | (rw [RV.out]; done) | (rw [RV.out]; rfl), hEb.drew⟩
   ·go_wp2_with fail
    go_region
    go_wp2
    go_roundw
    case measure => simp [intOf]; omega
    case rel => exact ⟨k + 1, by omega, by go_num, EachTo.step HA.out E0.out (by unfold eqAt; rw [F0.out]; exact HQ.out.symm), hb.drew⟩
  ·obtain rfl : k = l2 := by omega
   have CD : Hid (eqL fldEq x.fFields y.fFields = true) := qhd (eqL_done (HL2.out.trans HM2.out.symm) (qau HA.out HL2.out))
   have HZ3 : Hid (z = eqL mthEq x.fMethods y.fMethods) := qhd (by rw [HZ2.out, CD.out]; rfl)
   clear HA HZ2
   obtain ⟨wq, hwq⟩ : ∃ x, x = wr := ⟨_, rfl⟩
   subst hwq
   have hEq := hE.trans (hb.mono hE.size)
   have C1 := qhd (qad hb HA6.out)
   have C2 := qhd (qad hb HB6.out)
   go_wp2_with fail
   clear c1 c2
   go_loopw [6] (fun i wr => ∃ j : Nat, j ≤ l3 ∧ i = .int .i64 j ∧ EachTo (eqAt mthEq y.fMethods) x.fMethods j = true ∧ Below wq.heap.size wq wr) (fun i _ => l3 - (intOf i).toNat)
   case atStart => exact ⟨0, Nat.zero_le _, rfl, rfl, Below.refl _ _⟩
   case round =>
    obtain ⟨j, hj, rfl, ha, hb2⟩ := hrel
    have HA := qhd ha
    clear ha
    have hb2x := hb2.size
    have c1 := qad hb2 C1.out
    have c2 := qad hb2 C2.out
    have hEb := hEq.trans (hb2.mono hEq.size)
    by_cases hlt : j < l3
    rotate_left
    ·obtain rfl : j = l3 := by omega
     have RV : Hid (z = true) := qhd (by rw [HZ3.out]; exact eqL_done (HL3.out.trans HM3.out.symm) (qau HA.out HL3.out))
     go_wp2
     all_goals (try go_returns)
     all_goals exact HR.out _ _ ⟨by first | (rw [RV.out]; done) | (rw [RV.out]; rfl), hEb⟩
    obtain ⟨b, off, rfl, _, _, hr⟩ := h3.stays qat (Keeps.of_below hEb) (by omega)
    obtain ⟨b', off', rfl, _, _, hr'⟩ := o3.stays qat (Keeps.of_below hEb) (by omega)
    obtain ⟨m, cs, e0, _, e1, e4⟩ := hr j hlt
    obtain ⟨n, cs', f0, _, f1, f4⟩ := hr' j hlt
    obtain ⟨x1, x2, x3, rfl, p1, p2, p3, _, _⟩ := e4
    obtain ⟨y1, y2, y3, rfl, n1, n2, n3, _, _⟩ := f4
    obtain ⟨pa1, pl1, pc1, rfl⟩ := p1.form
    obtain ⟨pa2, pl2, pc2, rfl⟩ := p2.form
    obtain ⟨pa3, pl3, pc3, rfl⟩ := p3.form
    obtain ⟨na1, nl1, nc1, rfl⟩ := n1.form
    obtain ⟨na2, nl2, nc2, rfl⟩ := n2.form
    obtain ⟨na3, nl3, nc3, rfl⟩ := n3.form
    have q0 := In.cell (show wr.cell? ⟨b, off + j * 8, none⟩ = some (.string m.fName) from e1 0 _ rfl)
    have q1 := In.cell (show wr.cell? ⟨b, off + j * 8 + 1, none⟩ = some (.slice pa1 pl1 pc1) from e1 1 _ rfl)
    have q2 := In.cell (show wr.cell? ⟨b, off + j * 8 + 2, none⟩ = some (.int .i64 m.fRet.fKind) from e1 2 _ rfl)
    have q3 := In.cell (show wr.cell? ⟨b, off + j * 8 + 3, none⟩ = some (.string m.fRet.fName) from e1 3 _ rfl)
    have q4 := In.cell (show wr.cell? ⟨b, off + j * 8 + 4, none⟩ = some (.int .i64 m.fLocals) from e1 4 _ rfl)
    have q5 := In.cell (show wr.cell? ⟨b, off + j * 8 + 5, none⟩ = some (.int .i64 m.fStack) from e1 5 _ rfl)
    have q6 := In.cell (show wr.cell? ⟨b, off + j * 8 + 6, none⟩ = some (.slice pa2 pl2 pc2) from e1 6 _ rfl)
    have q7 := In.cell (show wr.cell? ⟨b, off + j * 8 + 7, none⟩ = some (.slice pa3 pl3 pc3) from e1 7 _ rfl)
    have r0 := In.cell (show wr.cell? ⟨b', off' + j * 8, none⟩ = some (.string n.fName) from f1 0 _ rfl)
    have r1 := In.cell (show wr.cell? ⟨b', off' + j * 8 + 1, none⟩ = some (.slice na1 nl1 nc1) from f1 1 _ rfl)
    have r2 := In.cell (show wr.cell? ⟨b', off' + j * 8 + 2, none⟩ = some (.int .i64 n.fRet.fKind) from f1 2 _ rfl)
    have r3 := In.cell (show wr.cell? ⟨b', off' + j * 8 + 3, none⟩ = some (.string n.fRet.fName) from f1 3 _ rfl)
    have r4 := In.cell (show wr.cell? ⟨b', off' + j * 8 + 4, none⟩ = some (.int .i64 n.fLocals) from f1 4 _ rfl)
    have r5 := In.cell (show wr.cell? ⟨b', off' + j * 8 + 5, none⟩ = some (.int .i64 n.fStack) from f1 5 _ rfl)
    have r6 := In.cell (show wr.cell? ⟨b', off' + j * 8 + 6, none⟩ = some (.slice na2 nl2 nc2) from f1 6 _ rfl)
    have r7 := In.cell (show wr.cell? ⟨b', off' + j * 8 + 7, none⟩ = some (.slice na3 nl3 nc3) from f1 7 _ rfl)
    have E0 := qhd e0
    have F0 := qhd f0
    go_wp2_with fail
    have d1 := In.cell c1
    have d2 := In.cell c2
    obtain ⟨q, hq⟩ : ∃ q, q = mthEq m n := ⟨_, rfl⟩
    have CM : ∀ y : In wr, Calls Tryz.prog 50 #[.agg #[.string m.fName, .slice pa1 pl1 pc1, .int .i64 m.fRet.fKind, .string m.fRet.fName, .int .i64 m.fLocals, .int .i64 m.fStack, .slice pa2 pl2 pc2, .slice pa3 pl3 pc3], .agg #[.string n.fName, .slice na1 nl1 nc1, .int .i64 n.fRet.fKind, .string n.fRet.fName, .int .i64 n.fLocals, .int .i64 n.fStack, .slice na2 nl2 nc2, .slice na3 nl3 nc3]] y.x fun e w' => e = .returned (.bool q) ∧ Below y.x.heap.size y.x w' := fun y => by
     have hk := Keeps.of_below (lo := 0) y.h
     rw [hq]; exact L_loMethod m n _ _ _ _ _ _ y.x (p1.stays qas hk) (p2.stays qba hk) (p3.stays qaz hk) (n1.stays qas hk) (n2.stays qba hk) (n3.stays qaz hk)
    have HQ := qhd hq
    clear e0 e1 f0 f1 hr hr' hq c1 c2 p1 p2 p3 n1 n2 n3
    have g1 : (j : Int) < (l3 : Int) := by omega
    have g2 : (0 : Int) ≤ (j : Int) := by omega
    cases q
    ·have RV : Hid (z = false) := qhd (by rw [HZ3.out]; exact eqL_stop (qan E0.out (by unfold eqAt; rw [F0.out]; exact HQ.out.symm)))
     refine qal (by kernel_rfl) (by kernel_rfl) ?_
     repeat (go_big_quiet_step (first | (go_at_call 50; with_reducible exact Calls.ins (CM _))))
     refine wpQuiet_nil ?_
     rintro wZ ⟨⟨wE, hwE⟩, hq⟩
     obtain rfl : wE = wZ := hq.symm
     clear hq
     have hwEs := hwE.size
     (try dsimp only)
     go_wp2
     all_goals (try go_returns)
     all_goals exact HR.out _ _ ⟨by first | (rw [RV.out]; done) | (rw [RV.out]; rfl), hEb.trans (hwE.mono hEb.size)⟩
    refine qal (by kernel_rfl) (by kernel_rfl) ?_
    repeat (go_big_quiet_step (first | (go_at_call 50; with_reducible exact Calls.ins (CM _))))
    refine wpQuiet_nil ?_
    rintro wZ ⟨⟨wE, hwE⟩, hq⟩
    obtain rfl : wE = wZ := hq.symm
    clear hq
    have hwEs := hwE.size
    (try dsimp only)
    go_wp2
    go_roundw
    case measure => simp [intOf]; omega
    case rel => exact ⟨j + 1, by omega, by go_num, EachTo.step HA.out E0.out (by unfold eqAt; rw [F0.out]; exact HQ.out.symm), hb2.trans (hwE.mono hb2x)⟩

theorem tl_inj {a b : ByteArray} : a.toList = b.toList ↔ a = b := by
 rw [← sameN_iff]; simp [sameN]
theorem eqL_iff {α : Type} {f : α → α → Bool} (hf : ∀ a b, f a b = true ↔ a = b) {xs ys : List α} : eqL f xs ys = true ↔ xs = ys := by
 constructor
 ·intro h
  simp only [eqL, Bool.and_eq_true, decide_eq_true_eq] at h
  obtain ⟨hl, h⟩ := h
  refine List.ext_getElem? fun i => ?_
  by_cases hi : i < xs.length
  ·have hx := List.getElem?_eq_getElem hi
   have hy := List.getElem?_eq_getElem (l := ys) (i := i) (by omega)
   have h9 := each_iff.1 h i _ hx
   simp only [eqAt, hy] at h9
   rw [hx, hy, (hf _ _).1 h9]
  ·rw [List.getElem?_eq_none (by omega), List.getElem?_eq_none (by omega)]
 ·rintro rfl
  simp only [eqL, Bool.and_eq_true, decide_eq_true_eq, true_and]
  refine each_iff.2 fun k x hx => ?_
  simp only [eqAt, hx]
  exact (hf _ _).2 rfl
theorem insEq_iff (a b : DClsIns) : insEq a b = true ↔ a = b := by
 cases a; cases b
 simp [insEq, tl_inj, and_assoc]
theorem tagEq_iff' (a b : DTagTag) : tagEq a b = true ↔ a = b := by
 cases a; cases b
 simp [tagEq, tl_inj, and_assoc]
theorem fldEq_iff (a b : DClsField) : fldEq a b = true ↔ a = b := by
 cases a; cases b
 simp [fldEq, tl_inj, kndEq_iff]
theorem mapEq_iff (a b : DClsMap) : mapEq a b = true ↔ a = b := by
 cases a; cases b
 simp [mapEq, eqL_iff tagEq_iff', and_assoc]
theorem sameArgs_iff {xs ys : List DKndKind} : sameArgs xs ys = true ↔ xs = ys := by
 have : sameArgs xs ys = eqL kndEq xs ys := by
  have : argAt ys = eqAt kndEq ys := by funext k x; unfold argAt eqAt; cases ys[k]? <;> rfl
  unfold sameArgs eqL; rw [this]
 rw [this]; exact eqL_iff (fun a b => kndEq_iff)
theorem mthEq_iff (a b : DClsMethod) : mthEq a b = true ↔ a = b := by
 cases a; cases b
 simp only [mthEq, sameSig, Bool.and_eq_true, beq_iff_eq, tl_inj, kndEq_iff, sameArgs_iff, eqL_iff insEq_iff, eqL_iff mapEq_iff, DClsMethod.mk.injEq]
 constructor
 ·rintro ⟨⟨⟨⟨⟨h1, h2, h3⟩, h4⟩, h5⟩, h6⟩, h7⟩; exact ⟨h1, h3, h2, h4, h5, h6, h7⟩
 ·rintro ⟨h1, h3, h2, h4, h5, h6, h7⟩; exact ⟨⟨⟨⟨⟨h1, h2, h3⟩, h4⟩, h5⟩, h6⟩, h7⟩
theorem clsEq_iff (a b : DClsClass) : clsEq a b = true ↔ a = b := by
 cases a; cases b
 simp [clsEq, tl_inj, eqL_iff fldEq_iff, eqL_iff mthEq_iff, and_assoc]
def askEq (a b : DLodAsk) : Bool := a.fName.toList == b.fName.toList && a.fKeeper == b.fKeeper
theorem askEq_iff (a b : DLodAsk) : askEq a b = true ↔ a = b := by
 cases a; cases b
 simp [askEq, tl_inj]
def kprEq (a b : DLodKeeper) : Bool := eqL clsEq a.fOwns b.fOwns && eqL askEq a.fAsks b.fAsks
theorem kprEq_iff (a b : DLodKeeper) : kprEq a b = true ↔ a = b := by
 cases a; cases b
 simp [kprEq, eqL_iff clsEq_iff, eqL_iff askEq_iff]
def planEq (a b : DLodPlan) : Bool := eqL kprEq a.fKeepers b.fKeepers
theorem planEq_iff (a b : DLodPlan) : planEq a b = true ↔ a = b := by
 cases a; cases b
 simp [planEq, eqL_iff kprEq_iff]

theorem Sl.rowAt {α : Type} {k : Nat} {R : RowRel α} {lo : Nat} {w : World} {v : Value} {xs : List α} (h : Sl k R lo w v xs) {i : Nat} {x : α} (hx : xs[i]? = some x) : ∃ g off cap cs, v = .slice (some ⟨g, off, none⟩) xs.length cap ∧ xs.length ≤ cap ∧ g < w.heap.size ∧ cs.length = k ∧ (∀ j u, cs[j]? = some u → w.cell? ⟨g, off + i * k + j, none⟩ = some u) ∧ R lo w cs x := by
 obtain ⟨a, n, cap, rfl, hl, h1, h2, h3⟩ := h
 have hi := (List.getElem?_eq_some_iff.1 hx).1
 obtain ⟨g, off, rfl, _, hg, hr⟩ := h3 (by omega)
 obtain ⟨y, cs, e0, e1, e2, e3⟩ := hr i (by omega)
 obtain rfl : x = y := Option.some.inj (hx.symm.trans e0)
 exact ⟨g, off, cap, cs, by rw [hl], by omega, hg, e1, e2, e3⟩
@[go_sem] theorem eg_ask : Tryz.prog.eqGuardType Tryz.prog.depth 51 = false := by kernel_rfl
@[go_sem] theorem eq_ask (a c : ByteArray) (k1 k2 : Int) (w : World) : (Op.equalIn 10000 51 (.agg #[.string a, .int .i64 k1]) (.agg #[.string c, .int .i64 k2])).run Tryz.prog w = .ok (a.toList == c.toList && k1 == k2) w := by
 have iu3 := Tryz.underlying3
 have ia3 := Tryz.isAgg3
 have iz3 := Tryz.sizeOf3
 have iu9 := Tryz.underlying9
 have ia9 := Tryz.isAgg9
 have iz9 := Tryz.sizeOf9
 have hS : Tryz.prog.underlying 51 = some (.struct (Tryz.prog.fieldsOf 51)) := by kernel_rfl
 have hp : Tryz.prog.stoodInHeld 51 = false := by kernel_rfl
 rw [show (10000 : Nat) = 9999 + 1 from rfl, run_equalIn_agg w 9999 51 _ _ hS hp]
 simp only [Program.fieldsOf, Tryz.underlying51]
 go_simp
 by_cases h1 : a.toList = c.toList <;> by_cases h2 : k1 = k2 <;> simp [h1, h2]

theorem nameV {P : World → Prop} (w : World) (h : ∀ W, W = w → P W) : P w := h w rfl
theorem kpr_stop1 {x y : DLodKeeper} (h : eqL clsEq x.fOwns y.fOwns = false) : kprEq x y = false := by simp [kprEq, h]
theorem kpr_stop2 {x y : DLodKeeper} (h : eqL askEq x.fAsks y.fAsks = false) : kprEq x y = false := by simp [kprEq, h]

theorem L_loPlan (p q : DLodPlan) (v1 u1 : Value) (w : World) (s1 : Sl 2 rLodKeeper 0 w v1 p.fKeepers) (t1 : Sl 2 rLodKeeper 0 w u1 q.fKeepers) :
  Calls Tryz.prog 11 #[.agg #[v1], .agg #[u1]] w fun e w' => e = .returned (.bool (planEq p q)) ∧ Below w.heap.size w w' := by
 obtain ⟨a1, l1, c1, rfl, hl1, g1, k1, h1⟩ := id s1
 obtain ⟨b1, m1, d1, rfl, hm1, i1, j1, o1⟩ := id t1
 have z1 : l1 ≤ 9223372036854775807 := by unfold maxLen at k1; omega
 have z2 : m1 ≤ 9223372036854775807 := by unfold maxLen at j1; omega
 obtain ⟨z, hz⟩ : ∃ z, z = planEq p q := ⟨_, rfl⟩
 have HZ : Hid (z = eqL kprEq p.fKeepers q.fKeepers) := qhd (by rw [hz]; rfl)
 rw [← hz]
 have HL := qhd hl1
 have HM := qhd hm1
 clear hz s1 t1 g1 k1 i1 j1 hl1 hm1
 by_cases e2 : ¬ l1 = m1
 ·have i1 : ((l1 : Int) != (m1 : Int)) = true := by simp; omega
  have i2 : ¬ (l1 : Int) = (m1 : Int) := by omega
  refine qac fun R HR => ?_
  go_enter Tryz.func11, Tryz.ntmps11
  have RV : Hid (z = false) := qhd (by rw [HZ.out]; (exact eqL_len (by rw [HL.out, HM.out]; exact e2)))
  (go_wp2; (all_goals (try go_returns)); (all_goals exact HR.out _ _ ⟨by first | (rw [RV.out]; done) | (rw [RV.out]; rfl), bbel⟩))
 obtain rfl : l1 = m1 := Decidable.byContradiction e2
 clear e2
 refine qac fun R HR => ?_
 go_enter Tryz.func11, Tryz.ntmps11
 go_upto_region 4 with fail
 refine nameV (P := fun W => Code.wp _ _ _ _ W) _ (fun w1 hw1 => ?_)
 have hE : Below w.heap.size w w1 := by rw [hw1]; exact bbel
 have HA : Hid (w1.cell? ⟨w.heap.size, 0, none⟩ = some (.slice a1 l1 c1)) := qhd (by rw [hw1]; go_simp)
 have HB : Hid (w1.cell? ⟨w.heap.size + 1, 0, none⟩ = some (.slice b1 l1 d1)) := qhd (by rw [hw1]; go_simp)
 have hz1 : w1.heap.size = w.heap.size + 1 + 1 := by rw [hw1]; simp
 clear hw1
 go_loopw [5] (fun i wr => ∃ k : Nat, k ≤ l1 ∧ i = .int .i64 k ∧ EachTo (eqAt kprEq q.fKeepers) p.fKeepers k = true ∧ Below w1.heap.size w1 wr) (fun i _ => l1 - (intOf i).toNat)
 case atStart => exact ⟨0, Nat.zero_le _, rfl, rfl, Below.refl _ _⟩
 case round =>
  obtain ⟨k, hk, rfl, ha, hb⟩ := hrel
  obtain ⟨wo, hwo⟩ : ∃ x, x = wr := ⟨_, rfl⟩
  subst hwo
  have HEA := qhd ha
  clear ha
  have hbx := hb.size
  have r1 := qad hb HA.out
  have r2 := qad hb HB.out
  have hEb := hE.trans (hb.mono hE.size)
  have hl0 : w.heap.size < wo.heap.size := by omega
  have hl1 : w.heap.size + 1 < wo.heap.size := by omega
  by_cases hlt : k < l1
  rotate_left
  ·obtain rfl : k = l1 := by omega
   have RV : Hid (z = true) := qhd (by rw [HZ.out]; exact eqL_done (HL.out.trans HM.out.symm) (qau HEA.out HL.out))
   go_wp2
   all_goals (try go_returns)
   all_goals exact HR.out _ _ ⟨by first | (rw [RV.out]; done) | (rw [RV.out]; rfl), hEb⟩
  obtain ⟨b, off, rfl, _, _, hr⟩ := h1.stays rLodKeeper_good (Keeps.of_below hEb) (by omega)
  obtain ⟨b', off', rfl, _, _, hr'⟩ := o1.stays rLodKeeper_good (Keeps.of_below hEb) (by omega)
  obtain ⟨x, cs, e0, _, e1, e4⟩ := hr k hlt
  obtain ⟨y, cs', f0, _, f1, f4⟩ := hr' k hlt
  obtain ⟨x1, x2, rfl, p1, p2⟩ := e4
  obtain ⟨y1, y2, rfl, n1, n2⟩ := f4
  obtain ⟨pa1, pl1, pc1, rfl, hp1, _, pm1, _⟩ := id p1
  obtain ⟨pa2, pl2, pc2, rfl, hp2, _, pm2, _⟩ := id p2
  obtain ⟨na1, nl1, nc1, rfl, hn1, _, nm1, _⟩ := id n1
  obtain ⟨na2, nl2, nc2, rfl, hn2, _, nm2, _⟩ := id n2
  have q0 : wo.cell? ⟨b, off + k * 2, none⟩ = some (.slice pa1 pl1 pc1) := e1 0 _ rfl
  have q1 : wo.cell? ⟨b, off + k * 2 + 1, none⟩ = some (.slice pa2 pl2 pc2) := e1 1 _ rfl
  have r0 : wo.cell? ⟨b', off' + k * 2, none⟩ = some (.slice na1 nl1 nc1) := f1 0 _ rfl
  have r1' : wo.cell? ⟨b', off' + k * 2 + 1, none⟩ = some (.slice na2 nl2 nc2) := f1 1 _ rfl
  have E0 := qhd e0
  have F0 := qhd f0
  have P1 := qhd p1
  have P2 := qhd p2
  have N1 := qhd n1
  have N2 := qhd n2
  have HP1 := qhd hp1
  have HP2 := qhd hp2
  have HN1 := qhd hn1
  have HN2 := qhd hn2
  have y1 : pl1 ≤ 9223372036854775807 := by unfold maxLen at pm1; omega
  have y2 : pl2 ≤ 9223372036854775807 := by unfold maxLen at pm2; omega
  have y3 : nl1 ≤ 9223372036854775807 := by unfold maxLen at nm1; omega
  have y4 : nl2 ≤ 9223372036854775807 := by unfold maxLen at nm2; omega
  have STOP : Hid (kprEq x y = false → z = false) := qhd fun h => by
   rw [HZ.out]; exact eqL_stop (qan E0.out (by unfold eqAt; rw [F0.out]; exact h))
  have g1 : (k : Int) < (l1 : Int) := by omega
  clear e0 e1 f0 f1 hr hr' p1 p2 n1 n2 hp1 hp2 hn1 hn2 pm1 pm2 nm1 nm2
  by_cases e2 : ¬ pl1 = nl1
  ·have i1 : ((pl1 : Int) != (nl1 : Int)) = true := by simp; omega
   have i2 : ¬ (pl1 : Int) = (nl1 : Int) := by omega
   have RV : Hid (z = false) := qhd (STOP.out (kpr_stop1 (eqL_len (by rw [HP1.out, HN1.out]; exact e2))))
   go_wp2
   all_goals (try go_returns)
   all_goals exact HR.out _ _ ⟨by first | (rw [RV.out]; done) | (rw [RV.out]; rfl), bbel⟩
  obtain rfl : pl1 = nl1 := Decidable.byContradiction e2
  by_cases e3 : ¬ pl2 = nl2
  ·have i1 : ((pl2 : Int) != (nl2 : Int)) = true := by simp; omega
   have i2 : ¬ (pl2 : Int) = (nl2 : Int) := by omega
   have RV : Hid (z = false) := qhd (STOP.out (kpr_stop2 (eqL_len (by rw [HP2.out, HN2.out]; exact e3))))
   go_wp2
   all_goals (try go_returns)
   all_goals exact HR.out _ _ ⟨by first | (rw [RV.out]; done) | (rw [RV.out]; rfl), bbel⟩
  obtain rfl : pl2 = nl2 := Decidable.byContradiction e3
  clear e2 e3
  go_wp2_with fail
  refine nameV (P := fun W => Code.wp _ _ _ _ W) _ (fun wq hwq => ?_)
  have hBq : Below wo.heap.size wo wq := by rw [hwq]; exact bbel
  have hzq : wq.heap.size = wo.heap.size + 1 + 1 := by rw [hwq]; simp [World.setCell]
  have X0 : Hid (wq.cell? ⟨wo.heap.size, 0, none⟩ = some (.slice pa1 pl1 pc1)) := qhd (by rw [hwq]; go_simp)
  have X1 : Hid (wq.cell? ⟨wo.heap.size, 1, none⟩ = some (.slice pa2 pl2 pc2)) := qhd (by rw [hwq]; go_simp)
  have Y0 : Hid (wq.cell? ⟨wo.heap.size + 1, 0, none⟩ = some (.slice na1 pl1 nc1)) := qhd (by rw [hwq]; go_simp)
  have Y1 : Hid (wq.cell? ⟨wo.heap.size + 1, 1, none⟩ = some (.slice na2 pl2 nc2)) := qhd (by rw [hwq]; go_simp)
  have hEq : Below w.heap.size w wq := hEb.trans (hBq.mono hEb.size)
  have hb1q : Below w1.heap.size w1 wq := hb.trans (hBq.mono hb.size)
  clear hwq q0 q1 r0 r1' r1 r2
  go_loopw [8] (fun i wr => ∃ j : Nat, j ≤ pl1 ∧ i = .int .i64 j ∧ EachTo (eqAt clsEq y.fOwns) x.fOwns j = true ∧ Below wq.heap.size wq wr) (fun i _ => pl1 - (intOf i).toNat)
  case atStart => exact ⟨0, Nat.zero_le _, rfl, rfl, Below.refl _ _⟩
  case round =>
   obtain ⟨j, hj, rfl, ha, hb2⟩ := hrel
   have HA2 := qhd ha
   clear ha
   have hb2x := hb2.size
   have x0 := qad hb2 X0.out
   have y0 := qad hb2 Y0.out
   have hEb2 := hEq.trans (hb2.mono hEq.size)
   have hBr2 : Below wo.heap.size wo _ := hBq.trans (hb2.mono hBq.size)
   by_cases hlj : j < pl1
   ·obtain ⟨c, hc⟩ : ∃ c, x.fOwns[j]? = some c := ⟨_, List.getElem?_eq_getElem (by rw [HP1.out]; exact hlj)⟩
    obtain ⟨d, hd⟩ : ∃ c, y.fOwns[j]? = some c := ⟨_, List.getElem?_eq_getElem (by rw [HN1.out]; exact hlj)⟩
    obtain ⟨mb, mo, mc, ds, em, _, _, _, m1, m4⟩ := (P1.out.stays rClsClass_good (Keeps.of_below hBr2)).rowAt hc
    obtain ⟨nb, no, nc, ds', en, _, _, _, o2, o4⟩ := (N1.out.stays rClsClass_good (Keeps.of_below hBr2)).rowAt hd
    rw [HP1.out] at em
    rw [HN1.out] at en
    cases em
    cases en
    obtain ⟨u1, u2, rfl, f1, f2, _, _⟩ := m4
    obtain ⟨u3, u4, rfl, f3, f4, _, _⟩ := o4
    obtain ⟨ca1, cl1, cc1, rfl⟩ := f1.form
    obtain ⟨ca2, cl2, cc2, rfl⟩ := f2.form
    obtain ⟨da1, dl1, dc1, rfl⟩ := f3.form
    obtain ⟨da2, dl2, dc2, rfl⟩ := f4.form
    have xx := In.cell x0
    have yy := In.cell y0
    have q0 := In.cell (show _ = some (.string c.fName) from m1 0 _ rfl)
    have q1 := In.cell (show _ = some (.string c.fSuper) from m1 1 _ rfl)
    have q2 := In.cell (show _ = some (.slice ca1 cl1 cc1) from m1 2 _ rfl)
    have q3 := In.cell (show _ = some (.slice ca2 cl2 cc2) from m1 3 _ rfl)
    have r0 := In.cell (show _ = some (.string d.fName) from o2 0 _ rfl)
    have r1 := In.cell (show _ = some (.string d.fSuper) from o2 1 _ rfl)
    have r2 := In.cell (show _ = some (.slice da1 dl1 dc1) from o2 2 _ rfl)
    have r3 := In.cell (show _ = some (.slice da2 dl2 dc2) from o2 3 _ rfl)
    simp only [Nat.add_zero] at q0 r0
    obtain ⟨v, hv⟩ : ∃ v, v = clsEq c d := ⟨_, rfl⟩
    have HV := qhd hv
    have CM : ∀ y : In wr, Calls Tryz.prog 26 #[.agg #[.string c.fName, .string c.fSuper, .slice ca1 cl1 cc1, .slice ca2 cl2 cc2], .agg #[.string d.fName, .string d.fSuper, .slice da1 dl1 dc1, .slice da2 dl2 dc2]] y.x fun e w' => e = .returned (.bool v) ∧ Below y.x.heap.size y.x w' := fun y => by
     have hk := Keeps.of_below (lo := 0) y.h
     rw [hv]; exact L_loClass c d _ _ _ _ y.x (f1.stays qay hk) (f2.stays qat hk) (f3.stays qay hk) (f4.stays qat hk)
    have EQ : Hid (eqAt clsEq y.fOwns j c = v) := qhd (by unfold eqAt; rw [hd, hv])
    have HC := qhd hc
    have g2 : (j : Int) < (pl1 : Int) := by omega
    have g3 : (0 : Int) ≤ (j : Int) := by omega
    clear m1 o2 f1 f2 f3 f4 hv hc hd
    go_wp2_with fail
    clear x0 y0
    cases v
    ·have RV : Hid (z = false) := qhd (STOP.out (kpr_stop1 (eqL_stop (qan HC.out EQ.out))))
     refine qal (by kernel_rfl) (by kernel_rfl) ?_
     repeat (go_big_quiet_step (first | (go_at_call 26; with_reducible exact Calls.ins (CM _))))
     refine wpQuiet_nil ?_
     rintro wZ ⟨⟨wE, hwE⟩, hq⟩
     obtain rfl : wE = wZ := hq.symm
     clear hq
     have hwEs := hwE.size
     (try dsimp only)
     go_wp2
     all_goals (try go_returns)
     all_goals exact HR.out _ _ ⟨by first | (rw [RV.out]; done) | (rw [RV.out]; rfl), hEb2.trans (hwE.mono hEb2.size)⟩
    refine qal (by kernel_rfl) (by kernel_rfl) ?_
    repeat (go_big_quiet_step (first | (go_at_call 26; with_reducible exact Calls.ins (CM _))))
    refine wpQuiet_nil ?_
    rintro wZ ⟨⟨wE, hwE⟩, hq⟩
    obtain rfl : wE = wZ := hq.symm
    clear hq
    have hwEs := hwE.size
    (try dsimp only)
    go_wp2
    go_roundw
    case measure => simp [intOf]; omega
    case rel => exact ⟨j + 1, by omega, by go_num, EachTo.step HA2.out HC.out EQ.out, hb2.trans (hwE.mono hb2x)⟩
   ·obtain rfl : j = pl1 := by omega
    have OW : Hid (eqL clsEq x.fOwns y.fOwns = true) := qhd (eqL_done (HP1.out.trans HN1.out.symm) (qau HA2.out HP1.out))
    have X1' := qhd (qad hb2 X1.out)
    have Y1' := qhd (qad hb2 Y1.out)
    have hb1r : Below w1.heap.size w1 wr := hb1q.trans (hb2.mono hb1q.size)
    clear HA2
    obtain ⟨wp, hwp⟩ : ∃ x, x = wr := ⟨_, rfl⟩
    subst hwp
    go_wp2_with fail
    clear x0 y0
    go_loopw [9] (fun i wr => ∃ j : Nat, j ≤ pl2 ∧ i = .int .i64 j ∧ EachTo (eqAt askEq y.fAsks) x.fAsks j = true ∧ Below wp.heap.size wp wr) (fun i _ => pl2 - (intOf i).toNat)
    case atStart => exact ⟨0, Nat.zero_le _, rfl, rfl, Below.refl _ _⟩
    case round =>
     obtain ⟨t, ht, rfl, ha, hb3⟩ := hrel
     have HA3 := qhd ha
     clear ha
     have hb3x := hb3.size
     have x0 := qad hb3 X1'.out
     have y0 := qad hb3 Y1'.out
     have hBr3 : Below wo.heap.size wo _ := hBr2.trans (hb3.mono hBr2.size)
     have hEb3 := hEb2.trans (hb3.mono hEb2.size)
     by_cases hlj : t < pl2
     ·obtain ⟨c, hc⟩ : ∃ c, x.fAsks[t]? = some c := ⟨_, List.getElem?_eq_getElem (by rw [HP2.out]; exact hlj)⟩
      obtain ⟨d, hd⟩ : ∃ c, y.fAsks[t]? = some c := ⟨_, List.getElem?_eq_getElem (by rw [HN2.out]; exact hlj)⟩
      obtain ⟨mb, mo, mc, ds, em, _, _, _, m1, m4⟩ := (P2.out.stays rLodAsk_good (Keeps.of_below hBr3)).rowAt hc
      obtain ⟨nb, no, nc, ds', en, _, _, _, o2, o4⟩ := (N2.out.stays rLodAsk_good (Keeps.of_below hBr3)).rowAt hd
      rw [HP2.out] at em
      rw [HN2.out] at en
      cases em
      cases en
      obtain ⟨rfl, _⟩ := m4
      obtain ⟨rfl, _⟩ := o4
      have q0 := (show _ = some (.string c.fName) from m1 0 _ rfl)
      have q1 := (show _ = some (.int .i64 c.fKeeper) from m1 1 _ rfl)
      have r0 := (show _ = some (.string d.fName) from o2 0 _ rfl)
      have r1 := (show _ = some (.int .i64 d.fKeeper) from o2 1 _ rfl)
      simp only [Nat.add_zero] at q0 r0
      obtain ⟨v, hv⟩ : ∃ v, v = askEq c d := ⟨_, rfl⟩
      have bo : ∀ W, (binOp .neq 51 (.agg #[.string c.fName, .int .i64 c.fKeeper]) (.agg #[.string d.fName, .int .i64 d.fKeeper])).run Tryz.prog W = .ok (.bool !v) W := fun W => by
       rw [hv]
       simp only [run_neq_struct, eq_ask]
       try simp [Result.andThen, askEq]
      have EQ : Hid (eqAt askEq y.fAsks t c = v) := qhd (by unfold eqAt; rw [hd, hv])
      have HC := qhd hc
      have g2 : (t : Int) < (pl2 : Int) := by omega
      clear m1 o2 hv hc hd
      cases v
      ·have RV : Hid (z = false) := qhd (STOP.out (kpr_stop2 (eqL_stop (qan HC.out EQ.out))))
       go_wp2_with fail
       go_region
       go_wp2
       all_goals (try go_returns)
       all_goals exact HR.out _ _ ⟨by first | (rw [RV.out]; done) | (rw [RV.out]; rfl), hEb3.drew⟩
      ·go_wp2_with fail
       go_region
       go_wp2
       go_roundw
       case measure => simp [intOf]; omega
       case rel => exact ⟨t + 1, by omega, by go_num, EachTo.step HA3.out HC.out EQ.out, hb3.drew⟩
     ·obtain rfl : t = pl2 := by omega
      have AS : Hid (eqL askEq x.fAsks y.fAsks = true) := qhd (eqL_done (HP2.out.trans HN2.out.symm) (qau HA3.out HP2.out))
      have EQ : Hid (eqAt kprEq q.fKeepers k x = true) := qhd (by unfold eqAt; rw [F0.out]; show kprEq x y = true; simp [kprEq, OW.out, AS.out])
      clear HA3
      go_wp2
      go_roundw
      case measure => simp [intOf]; omega
      case rel => exact ⟨k + 1, by omega, by go_num, EachTo.step HEA.out E0.out EQ.out, hb1r.trans (hb3.mono hb1r.size)⟩

end Go.Proofs.YtfbonocadpknbaaGreatDoor
