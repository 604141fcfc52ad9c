

/-
  Data that is the same: plain words, and slices.Equal at fields, instructions and tags. Condition: the data can be read.
-/
import Derived.Test.YtejfecmmcghpmaaSig
namespace Go.Proofs.Ytejfecmmcghpmaa
set_option linter.unusedSimpArgs false
set_option linter.unusedVariables false
open Go.RowKit

def eqAt {α : Type} (f : α → α → Bool) (ys : List α) (k : Nat) (x : α) : Bool := match ys[k]? with | some y => f x y | none => true
def eqL {α : Type} (f : α → α → Bool) (xs ys : List α) : Bool := decide (xs.length = ys.length) && each (eqAt f ys) xs
theorem eqL_len {α : Type} {f : α → α → Bool} {xs ys : List α} (h : xs.length ≠ ys.length) : eqL f xs ys = false := by simp [eqL, h]
theorem eqL_stop {α : Type} {f : α → α → Bool} {xs ys : List α} (h : each (eqAt f ys) xs = false) : eqL f xs ys = false := by simp [eqL, h]
theorem eqL_done {α : Type} {f : α → α → Bool} {xs ys : List α} (h1 : xs.length = ys.length) (h : each (eqAt f ys) xs = true) : eqL f xs ys = true := by simp [eqL, h, h1]
def fldEq (a b : DClsField) : Bool := a.fName.toList == b.fName.toList && kndEq a.fKind b.fKind
def insEq (a b : DClsIns) : Bool := a.fOp == b.fOp && a.fA == b.fA && a.fName.toList == b.fName.toList && a.fMember.toList == b.fMember.toList
def tagEq (a b : DTagTag) : Bool := a.fKind == b.fKind && a.fName.toList == b.fName.toList
def mapEq (a b : DClsMap) : Bool := a.fAt == b.fAt && eqL tagEq a.fLocals b.fLocals && eqL tagEq a.fStack b.fStack
def mthEq (a b : DClsMethod) : Bool := a.fName.toList == b.fName.toList && sameSig a b && a.fLocals == b.fLocals && a.fStack == b.fStack && eqL insEq a.fCode b.fCode && eqL mapEq a.fMaps b.fMaps
def clsEq (a b : DClsClass) : Bool := a.fName.toList == b.fName.toList && a.fSuper.toList == b.fSuper.toList && eqL fldEq a.fFields b.fFields && eqL mthEq a.fMethods b.fMethods

@[go_sem] theorem eg_tag : Try.prog.eqGuardType Try.prog.depth 163 = false := by kernel_rfl
@[go_sem] theorem eq_tag (a c : Int) (b d : ByteArray) (w : World) : (Op.equalIn 10000 163 (.agg #[.int .i64 a, .string b]) (.agg #[.int .i64 c, .string d])).run Try.prog w = .ok (a == c && b.toList == d.toList) w := by
  have iu3 := Try.underlying3
  have ia3 := Try.isAgg3
  have iz3 := Try.sizeOf3
  have iu9 := Try.underlying9
  have ia9 := Try.isAgg9
  have iz9 := Try.sizeOf9
  have hS : Try.prog.underlying 163 = some (.struct (Try.prog.fieldsOf 163)) := by kernel_rfl
  have hp : Try.prog.stoodInHeld 163 = false := by kernel_rfl
  rw [show (10000 : Nat) = 9999 + 1 from rfl, run_equalIn_agg w 9999 163 _ _ hS hp]
  simp only [Program.fieldsOf, Try.underlying163]
  go_simp
  by_cases h1 : a = c <;> by_cases h2 : b.toList = d.toList <;> simp [h1, h2]
@[go_sem] theorem eg_ins4 : Try.prog.eqGuardType Try.prog.depth 117 = false := by kernel_rfl
@[go_sem] theorem eq_ins4 (a1 a2 b1 b2 : Int) (a3 a4 b3 b4 : ByteArray) (w : World) : (Op.equalIn 10000 117 (.agg #[.int .i64 a1, .int .i64 a2, .string a3, .string a4]) (.agg #[.int .i64 b1, .int .i64 b2, .string b3, .string b4])).run Try.prog w = .ok (a1 == b1 && a2 == b2 && a3.toList == b3.toList && a4.toList == b4.toList) w := by
  have iu3 := Try.underlying3
  have ia3 := Try.isAgg3
  have iz3 := Try.sizeOf3
  have iu9 := Try.underlying9
  have ia9 := Try.isAgg9
  have iz9 := Try.sizeOf9
  have hS : Try.prog.underlying 117 = some (.struct (Try.prog.fieldsOf 117)) := by kernel_rfl
  have hp : Try.prog.stoodInHeld 117 = false := by kernel_rfl
  rw [show (10000 : Nat) = 9999 + 1 from rfl, run_equalIn_agg w 9999 117 _ _ hS hp]
  simp only [Program.fieldsOf, Try.underlying117]
  go_simp
  by_cases h1 : a1 = b1 <;> by_cases h2 : a2 = b2 <;> by_cases h3 : a3.toList = b3.toList <;> by_cases h4 : a4.toList = b4.toList <;> simp [h1, h2, h3, h4]
@[go_sem] theorem eg_fld : Try.prog.eqGuardType Try.prog.depth 77 = false := by kernel_rfl
@[go_sem] theorem eq_fld (a c : ByteArray) (k1 k2 : Int) (n1 n2 : ByteArray) (w : World) : (Op.equalIn 10000 77 (.agg #[.string a, .int .i64 k1, .string n1]) (.agg #[.string c, .int .i64 k2, .string n2])).run Try.prog w = .ok (a.toList == c.toList && (k1 == k2 && n1.toList == n2.toList)) w := by
  have iu3 := Try.underlying3
  have ia3 := Try.isAgg3
  have iz3 := Try.sizeOf3
  have iu9 := Try.underlying9
  have ia9 := Try.isAgg9
  have iz9 := Try.sizeOf9
  have ik := Try.underlying44
  have iak : ∀ W : World, (Go.isAgg 44).run Try.prog W = .ok true W := Try.isAgg44
  have izk : ∀ W : World, (Go.sizeOf 44).run Try.prog W = .ok 2 W := Try.sizeOf44
  have hS : Try.prog.underlying 77 = some (.struct (Try.prog.fieldsOf 77)) := by kernel_rfl
  have hp : Try.prog.stoodInHeld 77 = false := by kernel_rfl
  have hSk : Try.prog.underlying 44 = some (.struct (Try.prog.fieldsOf 44)) := by kernel_rfl
  have hpk : Try.prog.stoodInHeld 44 = false := by kernel_rfl
  have hk : ∀ W : World, (Op.equalIn 9999 44 (.agg #[.int .i64 k1, .string n1]) (.agg #[.int .i64 k2, .string n2])).run Try.prog W = .ok (k1 == k2 && n1.toList == n2.toList) W := fun W => by
    rw [show (9999 : Nat) = 9998 + 1 from rfl, run_equalIn_agg W 9998 44 _ _ hSk hpk]
    simp only [Program.fieldsOf, Try.underlying44]
    go_simp
    by_cases h1 : k1 = k2 <;> by_cases h2 : n1.toList = n2.toList <;> simp [h1, h2]
  rw [show (10000 : Nat) = 9999 + 1 from rfl, run_equalIn_agg w 9999 77 _ _ hS hp]
  simp only [Program.fieldsOf, Try.underlying77]
  go_simp
  by_cases h1 : a.toList = c.toList <;> by_cases h2 : k1 = k2 <;> by_cases h3 : n1.toList = n2.toList <;> simp [h1, h2, h3, hk]

set_option maxRecDepth 100000 in
set_option maxHeartbeats 8000000 in
theorem I_eqClsFieldS (xs ys : List DClsField) (v1 u1 : Value) (w : World) (s1 : Sl 3 rClsField 0 w v1 xs) (t1 : Sl 3 rClsField 0 w u1 ys) :
    Calls Try.prog 35 #[v1, u1] w fun e w' => e = .returned (.bool (eqL fldEq xs ys)) ∧ Below w.heap.size w w' := by
  obtain ⟨a, len, cap, rfl, hl, h1, h2, h3⟩ := id s1
  obtain ⟨a', len', cap', rfl, hl', h1', h2', h3'⟩ := id t1
  have m1 : len ≤ 9223372036854775807 := by unfold maxLen at h2; omega
  have m1' : len' ≤ 9223372036854775807 := by unfold maxLen at h2'; omega
  have HL := Lib.hid hl
  have HL' := Lib.hid hl'
  clear h2 hl h2' hl' h1 h1'
  obtain ⟨z, hz⟩ : ∃ z, z = eqL fldEq xs ys := ⟨_, rfl⟩
  have HZ := Lib.hid hz
  rw [← hz]
  clear hz
  by_cases hlen : ¬ len = len'
  · have RV : Hid (z = false) := Lib.hid (by rw [HZ.out]; exact eqL_len (by rw [HL.out, HL'.out]; exact hlen))
    have i1 : ((len : Int) != (len' : Int)) = true := by simp; omega
    have i2 : ¬ (len : Int) = (len' : Int) := by omega
    refine calls_hide fun R HR => ?_
    go_enter Try.func35, Try.ntmps35
    go_wp2
    all_goals (try go_returns)
    all_goals exact HR.out _ _ ⟨by rw [RV.out]; rfl, by (repeat' (first | (with_reducible exact Below.refl _ _) | (with_reducible refine Below.alloc ?_ ?_ _) | (with_reducible refine Below.setCell ?_ ?_ _) | (with_reducible refine Below.drew ?_) | (refine below_hyp (by assumption) ?_ ?_) | go_size))⟩
  obtain rfl : len = len' := Decidable.byContradiction hlen
  clear hlen
  refine calls_hide fun R HR => ?_
  go_enter Try.func35, Try.ntmps35
  go_wp2_with fail
  go_loopw [5, 13] (fun _ i wr => ∃ k : Nat, k ≤ len ∧ i = .int .i64 k ∧ EachTo (eqAt fldEq ys) xs k = true ∧ Below w.heap.size w wr) (fun _ i _ => len - (intOf i).toNat)
  case atStart => exact ⟨0, Nat.zero_le _, rfl, rfl, by (repeat' (first | (with_reducible exact Below.refl _ _) | (with_reducible refine Below.alloc ?_ ?_ _) | (with_reducible refine Below.setCell ?_ ?_ _) | (with_reducible refine Below.drew ?_) | (refine below_hyp (by assumption) ?_ ?_) | go_size))⟩
  case round =>
    obtain ⟨k, hk, rfl, ha, hb⟩ := hrel
    have HA := Lib.hid ha
    clear ha
    by_cases hlt : k < len
    · obtain ⟨b, off, rfl, _, _, hr⟩ := h3.stays rClsField_good (Keeps.of_below hb) (by omega)
      obtain ⟨b', off', rfl, _, _, hr'⟩ := h3'.stays rClsField_good (Keeps.of_below hb) (by omega)
      obtain ⟨x, cs, e0, _, e1, e4⟩ := hr k hlt
      obtain ⟨y, cs', f0, _, f1, f4⟩ := hr' k hlt
      obtain ⟨rfl, _⟩ := e4
      obtain ⟨rfl, _⟩ := f4
      have q0 : wr.cell? ⟨b, off + k * 3, none⟩ = some (.string x.fName) := e1 0 _ rfl
      have p0 : wr.cell? ⟨b', off' + k * 3, none⟩ = some (.string y.fName) := f1 0 _ rfl
      have q1 : wr.cell? ⟨b, off + k * 3 + 1, none⟩ = some (.int .i64 x.fKind.fKind) := e1 1 _ rfl
      have p1 : wr.cell? ⟨b', off' + k * 3 + 1, none⟩ = some (.int .i64 y.fKind.fKind) := f1 1 _ rfl
      have q2 : wr.cell? ⟨b, off + k * 3 + 2, none⟩ = some (.string x.fKind.fName) := e1 2 _ rfl
      have p2 : wr.cell? ⟨b', off' + k * 3 + 2, none⟩ = some (.string y.fKind.fName) := f1 2 _ rfl
      have E0 := Lib.hid e0
      have F0 := Lib.hid f0
      clear e0 e1 f0 f1 hr hr'
      obtain ⟨q, hq⟩ : ∃ q, q = fldEq x y := ⟨_, rfl⟩
      have bo : ∀ W, (binOp .neq 77 (.agg #[.string x.fName, .int .i64 x.fKind.fKind, .string x.fKind.fName]) (.agg #[.string y.fName, .int .i64 y.fKind.fKind, .string y.fKind.fName])).run Try.prog W = .ok (.bool !q) W := fun W => by
        rw [hq]
        simp only [run_neq_struct, eq_fld]
        try simp [Result.andThen, fldEq, kndEq]
      have HQ := Lib.hid hq
      clear hq
      cases q
      · have RV : Hid (z = false) := Lib.hid (by rw [HZ.out]; exact eqL_stop (each_stop E0.out (by unfold eqAt; rw [F0.out]; exact HQ.out.symm)))
        go_wp2_with fail
        go_region
        go_wp2
        all_goals (try go_returns)
        all_goals exact HR.out _ _ ⟨by first | (rw [RV.out]; done) | (rw [RV.out]; rfl), by (repeat' (first | (with_reducible exact Below.refl _ _) | (with_reducible refine Below.alloc ?_ ?_ _) | (with_reducible refine Below.setCell ?_ ?_ _) | (with_reducible refine Below.drew ?_) | (refine below_hyp (by assumption) ?_ ?_) | go_size))⟩
      · go_wp2_with fail
        go_region
        go_wp2
        go_roundw
        case measure => simp [intOf]; omega
        case rel => exact ⟨k + 1, by omega, by go_num, EachTo.step HA.out E0.out (by unfold eqAt; rw [F0.out]; exact HQ.out.symm), by (repeat' (first | (with_reducible exact Below.refl _ _) | (with_reducible refine Below.alloc ?_ ?_ _) | (with_reducible refine Below.setCell ?_ ?_ _) | (with_reducible refine Below.drew ?_) | (refine below_hyp (by assumption) ?_ ?_) | go_size))⟩
    · obtain rfl : k = len := by omega
      have RV : Hid (z = true) := Lib.hid (by rw [HZ.out]; exact eqL_done (HL.out.trans HL'.out.symm) (each_done HA.out HL.out))
      go_wp2
      all_goals (try go_returns)
      all_goals exact HR.out _ _ ⟨by rw [RV.out]; rfl, by (repeat' (first | (with_reducible exact Below.refl _ _) | (with_reducible refine Below.alloc ?_ ?_ _) | (with_reducible refine Below.setCell ?_ ?_ _) | (with_reducible refine Below.drew ?_) | (refine below_hyp (by assumption) ?_ ?_) | go_size))⟩

set_option maxRecDepth 100000 in
set_option maxHeartbeats 8000000 in
theorem I_eqClsInsS (xs ys : List DClsIns) (v1 u1 : Value) (w : World) (s1 : Sl 4 rClsIns 0 w v1 xs) (t1 : Sl 4 rClsIns 0 w u1 ys) :
    Calls Try.prog 75 #[v1, u1] w fun e w' => e = .returned (.bool (eqL insEq xs ys)) ∧ Below w.heap.size w w' := by
  obtain ⟨a, len, cap, rfl, hl, h1, h2, h3⟩ := id s1
  obtain ⟨a', len', cap', rfl, hl', h1', h2', h3'⟩ := id t1
  have m1 : len ≤ 9223372036854775807 := by unfold maxLen at h2; omega
  have m1' : len' ≤ 9223372036854775807 := by unfold maxLen at h2'; omega
  have HL := Lib.hid hl
  have HL' := Lib.hid hl'
  clear h2 hl h2' hl' h1 h1'
  obtain ⟨z, hz⟩ : ∃ z, z = eqL insEq xs ys := ⟨_, rfl⟩
  have HZ := Lib.hid hz
  rw [← hz]
  clear hz
  by_cases hlen : ¬ len = len'
  · have RV : Hid (z = false) := Lib.hid (by rw [HZ.out]; exact eqL_len (by rw [HL.out, HL'.out]; exact hlen))
    have i1 : ((len : Int) != (len' : Int)) = true := by simp; omega
    have i2 : ¬ (len : Int) = (len' : Int) := by omega
    refine calls_hide fun R HR => ?_
    go_enter Try.func75, Try.ntmps75
    go_wp2
    all_goals (try go_returns)
    all_goals exact HR.out _ _ ⟨by rw [RV.out]; rfl, by (repeat' (first | (with_reducible exact Below.refl _ _) | (with_reducible refine Below.alloc ?_ ?_ _) | (with_reducible refine Below.setCell ?_ ?_ _) | (with_reducible refine Below.drew ?_) | (refine below_hyp (by assumption) ?_ ?_) | go_size))⟩
  obtain rfl : len = len' := Decidable.byContradiction hlen
  clear hlen
  refine calls_hide fun R HR => ?_
  go_enter Try.func75, Try.ntmps75
  go_wp2_with fail
  go_loopw [5, 13] (fun _ i wr => ∃ k : Nat, k ≤ len ∧ i = .int .i64 k ∧ EachTo (eqAt insEq ys) xs k = true ∧ Below w.heap.size w wr) (fun _ i _ => len - (intOf i).toNat)
  case atStart => exact ⟨0, Nat.zero_le _, rfl, rfl, by (repeat' (first | (with_reducible exact Below.refl _ _) | (with_reducible refine Below.alloc ?_ ?_ _) | (with_reducible refine Below.setCell ?_ ?_ _) | (with_reducible refine Below.drew ?_) | (refine below_hyp (by assumption) ?_ ?_) | go_size))⟩
  case round =>
    obtain ⟨k, hk, rfl, ha, hb⟩ := hrel
    have HA := Lib.hid ha
    clear ha
    by_cases hlt : k < len
    · obtain ⟨b, off, rfl, _, _, hr⟩ := h3.stays rClsIns_good (Keeps.of_below hb) (by omega)
      obtain ⟨b', off', rfl, _, _, hr'⟩ := h3'.stays rClsIns_good (Keeps.of_below hb) (by omega)
      obtain ⟨x, cs, e0, _, e1, e4⟩ := hr k hlt
      obtain ⟨y, cs', f0, _, f1, f4⟩ := hr' k hlt
      obtain ⟨rfl, _⟩ := e4
      obtain ⟨rfl, _⟩ := f4
      have q0 : wr.cell? ⟨b, off + k * 4, none⟩ = some (.int .i64 x.fOp) := e1 0 _ rfl
      have p0 : wr.cell? ⟨b', off' + k * 4, none⟩ = some (.int .i64 y.fOp) := f1 0 _ rfl
      have q1 : wr.cell? ⟨b, off + k * 4 + 1, none⟩ = some (.int .i64 x.fA) := e1 1 _ rfl
      have p1 : wr.cell? ⟨b', off' + k * 4 + 1, none⟩ = some (.int .i64 y.fA) := f1 1 _ rfl
      have q2 : wr.cell? ⟨b, off + k * 4 + 2, none⟩ = some (.string x.fName) := e1 2 _ rfl
      have p2 : wr.cell? ⟨b', off' + k * 4 + 2, none⟩ = some (.string y.fName) := f1 2 _ rfl
      have q3 : wr.cell? ⟨b, off + k * 4 + 3, none⟩ = some (.string x.fMember) := e1 3 _ rfl
      have p3 : wr.cell? ⟨b', off' + k * 4 + 3, none⟩ = some (.string y.fMember) := f1 3 _ rfl
      have E0 := Lib.hid e0
      have F0 := Lib.hid f0
      clear e0 e1 f0 f1 hr hr'
      obtain ⟨q, hq⟩ : ∃ q, q = insEq x y := ⟨_, rfl⟩
      have bo : ∀ W, (binOp .neq 117 (.agg #[.int .i64 x.fOp, .int .i64 x.fA, .string x.fName, .string x.fMember]) (.agg #[.int .i64 y.fOp, .int .i64 y.fA, .string y.fName, .string y.fMember])).run Try.prog W = .ok (.bool !q) W := fun W => by
        rw [hq]
        simp only [run_neq_struct, eq_ins4]
        try simp [Result.andThen, insEq, kndEq]
      have HQ := Lib.hid hq
      clear hq
      cases q
      · have RV : Hid (z = false) := Lib.hid (by rw [HZ.out]; exact eqL_stop (each_stop E0.out (by unfold eqAt; rw [F0.out]; exact HQ.out.symm)))
        go_wp2_with fail
        go_region
        go_wp2
        all_goals (try go_returns)
        all_goals exact HR.out _ _ ⟨by first | (rw [RV.out]; done) | (rw [RV.out]; rfl), by (repeat' (first | (with_reducible exact Below.refl _ _) | (with_reducible refine Below.alloc ?_ ?_ _) | (with_reducible refine Below.setCell ?_ ?_ _) | (with_reducible refine Below.drew ?_) | (refine below_hyp (by assumption) ?_ ?_) | go_size))⟩
      · go_wp2_with fail
        go_region
        go_wp2
        go_roundw
        case measure => simp [intOf]; omega
        case rel => exact ⟨k + 1, by omega, by go_num, EachTo.step HA.out E0.out (by unfold eqAt; rw [F0.out]; exact HQ.out.symm), by (repeat' (first | (with_reducible exact Below.refl _ _) | (with_reducible refine Below.alloc ?_ ?_ _) | (with_reducible refine Below.setCell ?_ ?_ _) | (with_reducible refine Below.drew ?_) | (refine below_hyp (by assumption) ?_ ?_) | go_size))⟩
    · obtain rfl : k = len := by omega
      have RV : Hid (z = true) := Lib.hid (by rw [HZ.out]; exact eqL_done (HL.out.trans HL'.out.symm) (each_done HA.out HL.out))
      go_wp2
      all_goals (try go_returns)
      all_goals exact HR.out _ _ ⟨by rw [RV.out]; rfl, by (repeat' (first | (with_reducible exact Below.refl _ _) | (with_reducible refine Below.alloc ?_ ?_ _) | (with_reducible refine Below.setCell ?_ ?_ _) | (with_reducible refine Below.drew ?_) | (refine below_hyp (by assumption) ?_ ?_) | go_size))⟩

set_option maxRecDepth 100000 in
set_option maxHeartbeats 8000000 in
theorem I_eqTagTagS (xs ys : List DTagTag) (v1 u1 : Value) (w : World) (s1 : Sl 2 rTagTag 0 w v1 xs) (t1 : Sl 2 rTagTag 0 w u1 ys) :
    Calls Try.prog 97 #[v1, u1] w fun e w' => e = .returned (.bool (eqL tagEq xs ys)) ∧ Below w.heap.size w w' := by
  obtain ⟨a, len, cap, rfl, hl, h1, h2, h3⟩ := id s1
  obtain ⟨a', len', cap', rfl, hl', h1', h2', h3'⟩ := id t1
  have m1 : len ≤ 9223372036854775807 := by unfold maxLen at h2; omega
  have m1' : len' ≤ 9223372036854775807 := by unfold maxLen at h2'; omega
  have HL := Lib.hid hl
  have HL' := Lib.hid hl'
  clear h2 hl h2' hl' h1 h1'
  obtain ⟨z, hz⟩ : ∃ z, z = eqL tagEq xs ys := ⟨_, rfl⟩
  have HZ := Lib.hid hz
  rw [← hz]
  clear hz
  by_cases hlen : ¬ len = len'
  · have RV : Hid (z = false) := Lib.hid (by rw [HZ.out]; exact eqL_len (by rw [HL.out, HL'.out]; exact hlen))
    have i1 : ((len : Int) != (len' : Int)) = true := by simp; omega
    have i2 : ¬ (len : Int) = (len' : Int) := by omega
    refine calls_hide fun R HR => ?_
    go_enter Try.func97, Try.ntmps97
    go_wp2
    all_goals (try go_returns)
    all_goals exact HR.out _ _ ⟨by rw [RV.out]; rfl, by (repeat' (first | (with_reducible exact Below.refl _ _) | (with_reducible refine Below.alloc ?_ ?_ _) | (with_reducible refine Below.setCell ?_ ?_ _) | (with_reducible refine Below.drew ?_) | (refine below_hyp (by assumption) ?_ ?_) | go_size))⟩
  obtain rfl : len = len' := Decidable.byContradiction hlen
  clear hlen
  refine calls_hide fun R HR => ?_
  go_enter Try.func97, Try.ntmps97
  go_wp2_with fail
  go_loopw [5, 13] (fun _ i wr => ∃ k : Nat, k ≤ len ∧ i = .int .i64 k ∧ EachTo (eqAt tagEq ys) xs k = true ∧ Below w.heap.size w wr) (fun _ i _ => len - (intOf i).toNat)
  case atStart => exact ⟨0, Nat.zero_le _, rfl, rfl, by (repeat' (first | (with_reducible exact Below.refl _ _) | (with_reducible refine Below.alloc ?_ ?_ _) | (with_reducible refine Below.setCell ?_ ?_ _) | (with_reducible refine Below.drew ?_) | (refine below_hyp (by assumption) ?_ ?_) | go_size))⟩
  case round =>
    obtain ⟨k, hk, rfl, ha, hb⟩ := hrel
    have HA := Lib.hid ha
    clear ha
    by_cases hlt : k < len
    · obtain ⟨b, off, rfl, _, _, hr⟩ := h3.stays rTagTag_good (Keeps.of_below hb) (by omega)
      obtain ⟨b', off', rfl, _, _, hr'⟩ := h3'.stays rTagTag_good (Keeps.of_below hb) (by omega)
      obtain ⟨x, cs, e0, _, e1, e4⟩ := hr k hlt
      obtain ⟨y, cs', f0, _, f1, f4⟩ := hr' k hlt
      obtain ⟨rfl, _⟩ := e4
      obtain ⟨rfl, _⟩ := f4
      have q0 : wr.cell? ⟨b, off + k * 2, none⟩ = some (.int .i64 x.fKind) := e1 0 _ rfl
      have p0 : wr.cell? ⟨b', off' + k * 2, none⟩ = some (.int .i64 y.fKind) := f1 0 _ rfl
      have q1 : wr.cell? ⟨b, off + k * 2 + 1, none⟩ = some (.string x.fName) := e1 1 _ rfl
      have p1 : wr.cell? ⟨b', off' + k * 2 + 1, none⟩ = some (.string y.fName) := f1 1 _ rfl
      have E0 := Lib.hid e0
      have F0 := Lib.hid f0
      clear e0 e1 f0 f1 hr hr'
      obtain ⟨q, hq⟩ : ∃ q, q = tagEq x y := ⟨_, rfl⟩
      have bo : ∀ W, (binOp .neq 163 (.agg #[.int .i64 x.fKind, .string x.fName]) (.agg #[.int .i64 y.fKind, .string y.fName])).run Try.prog W = .ok (.bool !q) W := fun W => by
        rw [hq]
        simp only [run_neq_struct, eq_tag]
        try simp [Result.andThen, tagEq, kndEq]
      have HQ := Lib.hid hq
      clear hq
      cases q
      · have RV : Hid (z = false) := Lib.hid (by rw [HZ.out]; exact eqL_stop (each_stop E0.out (by unfold eqAt; rw [F0.out]; exact HQ.out.symm)))
        go_wp2_with fail
        go_region
        go_wp2
        all_goals (try go_returns)
        all_goals exact HR.out _ _ ⟨by first | (rw [RV.out]; done) | (rw [RV.out]; rfl), by (repeat' (first | (with_reducible exact Below.refl _ _) | (with_reducible refine Below.alloc ?_ ?_ _) | (with_reducible refine Below.setCell ?_ ?_ _) | (with_reducible refine Below.drew ?_) | (refine below_hyp (by assumption) ?_ ?_) | go_size))⟩
      · go_wp2_with fail
        go_region
        go_wp2
        go_roundw
        case measure => simp [intOf]; omega
        case rel => exact ⟨k + 1, by omega, by go_num, EachTo.step HA.out E0.out (by unfold eqAt; rw [F0.out]; exact HQ.out.symm), by (repeat' (first | (with_reducible exact Below.refl _ _) | (with_reducible refine Below.alloc ?_ ?_ _) | (with_reducible refine Below.setCell ?_ ?_ _) | (with_reducible refine Below.drew ?_) | (refine below_hyp (by assumption) ?_ ?_) | go_size))⟩
    · obtain rfl : k = len := by omega
      have RV : Hid (z = true) := Lib.hid (by rw [HZ.out]; exact eqL_done (HL.out.trans HL'.out.symm) (each_done HA.out HL.out))
      go_wp2
      all_goals (try go_returns)
      all_goals exact HR.out _ _ ⟨by rw [RV.out]; rfl, by (repeat' (first | (with_reducible exact Below.refl _ _) | (with_reducible refine Below.alloc ?_ ?_ _) | (with_reducible refine Below.setCell ?_ ?_ _) | (with_reducible refine Below.drew ?_) | (refine below_hyp (by assumption) ?_ ?_) | go_size))⟩

end Go.Proofs.Ytejfecmmcghpmaa
