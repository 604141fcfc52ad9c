/-
  Texts of mine, packed: Sig, Same, LoSame, SameP, LoPlan. No condition beside those of the single theorems.
-/
import Derived.Test.YtfbonocadpknbaaGreatDoorC1
import Derived.Test.YtfbonocadpknbaaGreatDoorC2
import Derived.Deep.LoopGhost
import Derived.Deep.CutRange
import Derived.Deep.CutBlock
set_option linter.unusedSimpArgs false
set_option linter.unusedVariables false
set_option maxHeartbeats 16000000
set_option maxRecDepth 100000
namespace Go.Proofs.YtfbonocadpknbaaGreatDoor
open Go.RowKit
def kndEq (a b : DKndKind) : Bool := a.fKind == b.fKind && a.fName.toList == b.fName.toList
def argAt (ys : List DKndKind) (k : Nat) (x : DKndKind) : Bool := match ys[k]? with | some y => kndEq x y | none => true
def sameArgs (xs ys : List DKndKind) : Bool := decide (xs.length = ys.length) && each (argAt ys) xs
def sameSig (a b : DClsMethod) : Bool := kndEq a.fRet b.fRet && sameArgs a.fArgs b.fArgs

theorem kndEq_iff {a b : DKndKind} : kndEq a b = true ↔ a = b := by
 obtain ⟨ak, an⟩ := a
 obtain ⟨bk, bn⟩ := b
 unfold kndEq
 simp only [Bool.and_eq_true, beq_iff_eq, DKndKind.mk.injEq]
 constructor
 ·rintro ⟨h1, h2⟩; exact ⟨h1, sameN_iff.1 (by simpa [sameN] using h2)⟩
 ·rintro ⟨h1, h2⟩; exact ⟨h1, by rw [h2]⟩

@[go_sem] theorem eg_knd : Tryz.prog.eqGuardType Tryz.prog.depth 61 = false := by kernel_rfl
@[go_sem] theorem eq_knd (a c : Int) (b d : ByteArray) (w : World) : (Op.equalIn 10000 61 (.agg #[.int .i64 a, .string b]) (.agg #[.int .i64 c, .string d])).run Tryz.prog w = .ok (a == c && b.toList == d.toList) w := by
 have iu3 := Tryz.underlying3
 have ia3 := Tryz.isAgg3
 have iz3 := Tryz.sizeOf3
 have iu9 := Tryz.underlying9
 have ia9 := Tryz.isAgg9
 have iz9 := Tryz.sizeOf9
 have hS : Tryz.prog.underlying 61 = some (.struct (Tryz.prog.fieldsOf 61)) := by kernel_rfl
 have hp : Tryz.prog.stoodInHeld 61 = false := by kernel_rfl
 rw [show (10000 : Nat) = 9999 + 1 from rfl, run_equalIn_agg w 9999 61 _ _ hS hp]
 simp only [Program.fieldsOf, Tryz.underlying61]
 go_simp
 by_cases h1 : a = c <;> by_cases h2 : b.toList = d.toList <;> simp [h1, h2]

theorem sameSig_len {m n : DClsMethod} (h : m.fArgs.length ≠ n.fArgs.length) : sameSig m n = false := by simp [sameSig, sameArgs, h]
theorem sameSig_ret {m n : DClsMethod} (h : kndEq m.fRet n.fRet = false) : sameSig m n = false := by simp [sameSig, h]
theorem sameSig_stop {m n : DClsMethod} (h : each (argAt n.fArgs) m.fArgs = false) : sameSig m n = false := by simp [sameSig, sameArgs, h]
theorem sameSig_done {m n : DClsMethod} (h1 : m.fArgs.length = n.fArgs.length) (h2 : kndEq m.fRet n.fRet = true) (h : each (argAt n.fArgs) m.fArgs = true) : sameSig m n = true := by simp [sameSig, sameArgs, h, h1, h2]

theorem S_l4Same (m n : DClsMethod) (v1 u1 : Value) (a2 a3 c2 c3 : Option Addr) (l2 l3 k2 k3 d2 d3 e2 e3 : Nat) (w : World) (s1 : Sl 2 rKndKind 0 w v1 m.fArgs) (t1 : Sl 2 rKndKind 0 w u1 n.fArgs) :
  Calls Tryz.prog 61 #[.agg #[.string m.fName, v1, .int .i64 m.fRet.fKind, .string m.fRet.fName, .int .i64 m.fLocals, .int .i64 m.fStack, .slice a2 l2 k2, .slice a3 l3 k3], .agg #[.string n.fName, u1, .int .i64 n.fRet.fKind, .string n.fRet.fName, .int .i64 n.fLocals, .int .i64 n.fStack, .slice c2 d2 e2, .slice c3 d3 e3]] w fun e w' => e = .returned (.bool (sameSig m n)) ∧ Below w.heap.size w w' := by
 obtain ⟨a, len, cap, rfl, hl, h1, h2, h3⟩ := id s1
 obtain ⟨a', len', cap', rfl, hl', h1', h2', h3'⟩ := id t1
 have m1 : len ≤ 9223372036854775807 := by unfold maxLen at h2; omega
 have m1' : len' ≤ 9223372036854775807 := by unfold maxLen at h2'; omega
 have HL := qhd hl
 have HL' := qhd hl'
 clear h2 hl h2' hl' h1 h1'
 obtain ⟨z, hz⟩ : ∃ z, z = sameSig m n := ⟨_, rfl⟩
 have HZ := qhd hz
 rw [← hz]
 clear hz
 by_cases hlen : ¬ len = len'
 ·have RV : Hid (z = false) := qhd (by rw [HZ.out]; exact sameSig_len (by rw [HL.out, HL'.out]; exact hlen))
  have i1 : ((len : Int) != (len' : Int)) = true := by simp; omega
  have i2 : ¬ (len : Int) = (len' : Int) := by omega
  refine qab fun R HR => ?_
  go_enter Tryz.func61, Tryz.ntmps61
  go_wp2
  all_goals (try go_returns)
  all_goals exact HR.out _ _ ⟨by first | (rw [RV.out]; done) | (rw [RV.out]; rfl), bbel⟩
 obtain rfl : len = len' := Decidable.byContradiction hlen
 clear hlen
 cases hr : kndEq m.fRet n.fRet
 ·have RV : Hid (z = false) := qhd (by rw [HZ.out]; exact sameSig_ret hr)
  have hq2 : (m.fRet.fKind == n.fRet.fKind && m.fRet.fName.toList == n.fRet.fName.toList) = false := hr
  clear hr
  have bo : ∀ W, (binOp .neq 61 (.agg #[.int .i64 m.fRet.fKind, .string m.fRet.fName]) (.agg #[.int .i64 n.fRet.fKind, .string n.fRet.fName])).run Tryz.prog W = .ok (.bool true) W := fun W => by
   simp only [run_neq_struct, eq_knd, hq2]
   try simp [Result.andThen]
  clear hq2
  refine qab fun R HR => ?_
  go_enter Tryz.func61, Tryz.ntmps61
  go_wp2
  all_goals (try go_returns)
  all_goals exact HR.out _ _ ⟨by first | (rw [RV.out]; done) | (rw [RV.out]; rfl), bbel⟩
 have HRET := qhd hr
 have hreq := kndEq_iff.1 hr
 have bo : ∀ W, (binOp .neq 61 (.agg #[.int .i64 m.fRet.fKind, .string m.fRet.fName]) (.agg #[.int .i64 n.fRet.fKind, .string n.fRet.fName])).run Tryz.prog W = .ok (.bool false) W := fun W => by
  rw [hreq]
  simp only [run_neq_struct, eq_knd]
  try simp [Result.andThen]
 clear hr hreq
 refine qab fun R HR => ?_
 go_enter Tryz.func61, Tryz.ntmps61
 go_wp2_with fail
 clear bo
 go_loopw [5] (fun i wr => ∃ k : Nat, k ≤ len ∧ i = .int .i64 k ∧ EachTo (argAt n.fArgs) m.fArgs k = true ∧ Below w.heap.size w wr ∧ wr.cell? ⟨w.heap.size, 1, none⟩ = some (.slice a len cap) ∧ wr.cell? ⟨w.heap.size + 1, 1, none⟩ = some (.slice a' len cap')) (fun i _ => len - (intOf i).toNat)
 case atStart => exact ⟨0, Nat.zero_le _, rfl, rfl, bbel, by go_simp, by go_simp⟩
 case round =>
  obtain ⟨k, hk, rfl, ha, hb, c1, c2'⟩ := hrel
  have HA := qhd ha
  clear ha
  have hbl := block_lt_of_cell c1
  have hbl2 := block_lt_of_cell c2'
  by_cases hlt : k < len
  ·obtain ⟨b, off, rfl, _, _, hr⟩ := h3.stays qar (Keeps.of_below hb) (by omega)
   obtain ⟨b', off', rfl, _, _, hr'⟩ := h3'.stays qar (Keeps.of_below hb) (by omega)
   obtain ⟨⟨xk, xn⟩, cs, e0, _, e1, e4⟩ := hr k hlt
   obtain ⟨⟨yk, yn⟩, cs', f0, _, f1, f4⟩ := hr' k hlt
   obtain ⟨rfl, _⟩ := e4
   obtain ⟨rfl, _⟩ := f4
   have q1 : wr.cell? ⟨b, off + k * 2, none⟩ = some (.int .i64 xk) := e1 0 _ rfl
   have q2 : wr.cell? ⟨b, off + k * 2 + 1, none⟩ = some (.string xn) := e1 1 _ rfl
   have q3 : wr.cell? ⟨b', off' + k * 2, none⟩ = some (.int .i64 yk) := f1 0 _ rfl
   have q4 : wr.cell? ⟨b', off' + k * 2 + 1, none⟩ = some (.string yn) := f1 1 _ rfl
   have E0 := qhd e0
   have F0 := qhd f0
   clear e0 e1 f0 f1 hr hr'
   cases hx : kndEq ⟨xk, xn⟩ ⟨yk, yn⟩
   ·have RV : Hid (z = false) := qhd (by rw [HZ.out]; exact sameSig_stop (qal E0.out (by unfold argAt; rw [F0.out]; exact hx)))
    have hq2 : (xk == yk && xn.toList == yn.toList) = false := hx
    have bo : ∀ W, (binOp .neq 61 (.agg #[.int .i64 xk, .string xn]) (.agg #[.int .i64 yk, .string yn])).run Tryz.prog W = .ok (.bool true) W := fun W => by
     simp only [run_neq_struct, eq_knd, hq2]
     try simp [Result.andThen]
    clear hq2 hx
    go_wp2_with fail
    go_region
    go_wp2
    all_goals (try go_returns)
    all_goals exact HR.out _ _ ⟨by first | (rw [RV.out]; done) | (rw [RV.out]; rfl), bbel⟩
   ·have heq := kndEq_iff.1 hx
    have HX := qhd hx
    cases heq
    clear hx
    have bo : ∀ W, (binOp .neq 61 (.agg #[.int .i64 xk, .string xn]) (.agg #[.int .i64 xk, .string xn])).run Tryz.prog W = .ok (.bool false) W := fun W => by
     simp only [run_neq_struct, eq_knd]
     try simp [Result.andThen]
    go_wp2_with fail
    go_region
    go_wp2
    go_roundw
    case measure => simp [intOf]; omega
    case rel => exact ⟨k + 1, by omega, by go_num, EachTo.step HA.out E0.out (by unfold argAt; rw [F0.out]; exact HX.out), bbel, by first | exact c1 | simpa using c1, by first | exact c2' | simpa using c2'⟩
  ·obtain rfl : k = len := by omega
   have RV : Hid (z = true) := qhd (by rw [HZ.out]; exact sameSig_done (HL.out.trans HL'.out.symm) HRET.out (qav HA.out HL.out))
   go_wp2
   all_goals (try go_returns)
   all_goals exact HR.out _ _ ⟨by first | (rw [RV.out]; done) | (rw [RV.out]; rfl), bbel⟩

theorem I_eqKnds (xs ys : List DKndKind) (v1 u1 : Value) (w : World) (s1 : Sl 2 rKndKind 0 w v1 xs) (t1 : Sl 2 rKndKind 0 w u1 ys) :
  Calls Tryz.prog 57 #[v1, u1] w fun e w' => e = .returned (.bool (sameArgs xs ys)) ∧ Below w.heap.size w w' := by
 obtain ⟨a, len, cap, rfl, hl, h1, h2, h3⟩ := id s1
 obtain ⟨a', len', cap', rfl, hl', h1', h2', h3'⟩ := id t1
 have m1 : len ≤ 9223372036854775807 := by unfold maxLen at h2; omega
 have m1' : len' ≤ 9223372036854775807 := by unfold maxLen at h2'; omega
 have HL := qhd hl
 have HL' := qhd hl'
 clear h2 hl h2' hl' h1 h1'
 obtain ⟨z, hz⟩ : ∃ z, z = sameArgs xs ys := ⟨_, rfl⟩
 have HZ := qhd hz
 rw [← hz]
 clear hz
 by_cases hlen : ¬ len = len'
 ·have RV : Hid (z = false) := qhd (by rw [HZ.out]; unfold sameArgs; rw [HL.out, HL'.out]; simp [hlen])
  have i1 : ((len : Int) != (len' : Int)) = true := by simp; omega
  have i2 : ¬ (len : Int) = (len' : Int) := by omega
  refine qab fun R HR => ?_
  go_enter Tryz.func57, Tryz.ntmps57
  go_wp2
  all_goals (try go_returns)
  all_goals exact HR.out _ _ ⟨by rw [RV.out]; rfl, bbel⟩
 obtain rfl : len = len' := Decidable.byContradiction hlen
 clear hlen
 refine qab fun R HR => ?_
 go_enter Tryz.func57, Tryz.ntmps57
 go_wp2_with fail
 go_loopw [5, 13] (fun _ i wr => ∃ k : Nat, k ≤ len ∧ i = .int .i64 k ∧ EachTo (argAt ys) xs k = true ∧ Below w.heap.size w wr) (fun _ i _ => len - (intOf i).toNat)
 case atStart => exact ⟨0, Nat.zero_le _, rfl, rfl, bbel⟩
 case round =>
  obtain ⟨k, hk, rfl, ha, hb⟩ := hrel
  have HA := qhd ha
  clear ha
  by_cases hlt : k < len
  ·obtain ⟨b, off, rfl, _, _, hr⟩ := h3.stays qar (Keeps.of_below hb) (by omega)
   obtain ⟨b', off', rfl, _, _, hr'⟩ := h3'.stays qar (Keeps.of_below hb) (by omega)
   obtain ⟨⟨xk, xn⟩, cs, e0, _, e1, e4⟩ := hr k hlt
   obtain ⟨⟨yk, yn⟩, cs', f0, _, f1, f4⟩ := hr' k hlt
   obtain ⟨rfl, _⟩ := e4
   obtain ⟨rfl, _⟩ := f4
   have q1 : wr.cell? ⟨b, off + k * 2, none⟩ = some (.int .i64 xk) := e1 0 _ rfl
   have q2 : wr.cell? ⟨b, off + k * 2 + 1, none⟩ = some (.string xn) := e1 1 _ rfl
   have q3 : wr.cell? ⟨b', off' + k * 2, none⟩ = some (.int .i64 yk) := f1 0 _ rfl
   have q4 : wr.cell? ⟨b', off' + k * 2 + 1, none⟩ = some (.string yn) := f1 1 _ rfl
   have E0 := qhd e0
   have F0 := qhd f0
   clear e0 e1 f0 f1 hr hr'
   cases hx : kndEq ⟨xk, xn⟩ ⟨yk, yn⟩
   ·have RV : Hid (z = false) := qhd (by rw [HZ.out]; unfold sameArgs; rw [qal E0.out (by unfold argAt; rw [F0.out]; exact hx)]; simp)
    have hq2 : (xk == yk && xn.toList == yn.toList) = false := hx
    have bo : ∀ W, (binOp .neq 61 (.agg #[.int .i64 xk, .string xn]) (.agg #[.int .i64 yk, .string yn])).run Tryz.prog W = .ok (.bool true) W := fun W => by
     simp only [run_neq_struct, eq_knd, hq2]
     try simp [Result.andThen]
    clear hq2 hx
    go_wp2_with fail
    go_region
    go_wp2
    all_goals (try go_returns)
    all_goals exact HR.out _ _ ⟨by first | (rw [RV.out]; done) | (rw [RV.out]; rfl), bbel⟩
   ·have heq := kndEq_iff.1 hx
    have HX := qhd hx
    cases heq
    clear hx
    have bo : ∀ W, (binOp .neq 61 (.agg #[.int .i64 xk, .string xn]) (.agg #[.int .i64 xk, .string xn])).run Tryz.prog W = .ok (.bool false) W := fun W => by
     simp only [run_neq_struct, eq_knd]
     try simp [Result.andThen]
    go_wp2_with fail
    go_region
    go_wp2
    go_roundw
    case measure => simp [intOf]; omega
    case rel => exact ⟨k + 1, by omega, by go_num, EachTo.step HA.out E0.out (by unfold argAt; rw [F0.out]; exact HX.out), bbel⟩
  ·obtain rfl : k = len := by omega
   have RV : Hid (z = true) := qhd (by rw [HZ.out]; unfold sameArgs; rw [qav HA.out HL.out, HL.out, HL'.out]; simp)
   go_wp2
   all_goals (try go_returns)
   all_goals exact HR.out _ _ ⟨by rw [RV.out]; rfl, bbel⟩

def eqAt {α : Type} (f : α → α → Bool) (ys : List α) (k : Nat) (x : α) : Bool := match ys[k]? with | some y => f x y | none => true
def eqL {α : Type} (f : α → α → Bool) (xs ys : List α) : Bool := decide (xs.length = ys.length) && each (eqAt f ys) xs
theorem eqL_len {α : Type} {f : α → α → Bool} {xs ys : List α} (h : xs.length ≠ ys.length) : eqL f xs ys = false := by simp [eqL, h]
theorem eqL_stop {α : Type} {f : α → α → Bool} {xs ys : List α} (h : each (eqAt f ys) xs = false) : eqL f xs ys = false := by simp [eqL, h]
theorem eqL_done {α : Type} {f : α → α → Bool} {xs ys : List α} (h1 : xs.length = ys.length) (h : each (eqAt f ys) xs = true) : eqL f xs ys = true := by simp [eqL, h, h1]
def fldEq (a b : DClsField) : Bool := a.fName.toList == b.fName.toList && kndEq a.fKind b.fKind
def insEq (a b : DClsIns) : Bool := a.fOp == b.fOp && a.fA == b.fA && a.fName.toList == b.fName.toList && a.fMember.toList == b.fMember.toList
def tagEq (a b : DTagTag) : Bool := a.fKind == b.fKind && a.fName.toList == b.fName.toList
def mapEq (a b : DClsMap) : Bool := a.fAt == b.fAt && eqL tagEq a.fLocals b.fLocals && eqL tagEq a.fStack b.fStack
def mthEq (a b : DClsMethod) : Bool := a.fName.toList == b.fName.toList && sameSig a b && a.fLocals == b.fLocals && a.fStack == b.fStack && eqL insEq a.fCode b.fCode && eqL mapEq a.fMaps b.fMaps
def clsEq (a b : DClsClass) : Bool := a.fName.toList == b.fName.toList && a.fSuper.toList == b.fSuper.toList && eqL fldEq a.fFields b.fFields && eqL mthEq a.fMethods b.fMethods

@[go_sem] theorem eg_tag : Tryz.prog.eqGuardType Tryz.prog.depth 94 = false := by kernel_rfl
@[go_sem] theorem eq_tag (a c : Int) (b d : ByteArray) (w : World) : (Op.equalIn 10000 94 (.agg #[.int .i64 a, .string b]) (.agg #[.int .i64 c, .string d])).run Tryz.prog w = .ok (a == c && b.toList == d.toList) w := by
 have iu3 := Tryz.underlying3
 have ia3 := Tryz.isAgg3
 have iz3 := Tryz.sizeOf3
 have iu9 := Tryz.underlying9
 have ia9 := Tryz.isAgg9
 have iz9 := Tryz.sizeOf9
 have hS : Tryz.prog.underlying 94 = some (.struct (Tryz.prog.fieldsOf 94)) := by kernel_rfl
 have hp : Tryz.prog.stoodInHeld 94 = false := by kernel_rfl
 rw [show (10000 : Nat) = 9999 + 1 from rfl, run_equalIn_agg w 9999 94 _ _ hS hp]
 simp only [Program.fieldsOf, Tryz.underlying94]
 go_simp
 by_cases h1 : a = c <;> by_cases h2 : b.toList = d.toList <;> simp [h1, h2]
@[go_sem] theorem eg_ins4 : Tryz.prog.eqGuardType Tryz.prog.depth 91 = false := by kernel_rfl
@[go_sem] theorem eq_ins4 (a1 a2 b1 b2 : Int) (a3 a4 b3 b4 : ByteArray) (w : World) : (Op.equalIn 10000 91 (.agg #[.int .i64 a1, .int .i64 a2, .string a3, .string a4]) (.agg #[.int .i64 b1, .int .i64 b2, .string b3, .string b4])).run Tryz.prog w = .ok (a1 == b1 && a2 == b2 && a3.toList == b3.toList && a4.toList == b4.toList) w := by
 have iu3 := Tryz.underlying3
 have ia3 := Tryz.isAgg3
 have iz3 := Tryz.sizeOf3
 have iu9 := Tryz.underlying9
 have ia9 := Tryz.isAgg9
 have iz9 := Tryz.sizeOf9
 have hS : Tryz.prog.underlying 91 = some (.struct (Tryz.prog.fieldsOf 91)) := by kernel_rfl
 have hp : Tryz.prog.stoodInHeld 91 = false := by kernel_rfl
 rw [show (10000 : Nat) = 9999 + 1 from rfl, run_equalIn_agg w 9999 91 _ _ hS hp]
 simp only [Program.fieldsOf, Tryz.underlying91]
 go_simp
 by_cases h1 : a1 = b1 <;> by_cases h2 : a2 = b2 <;> by_cases h3 : a3.toList = b3.toList <;> by_cases h4 : a4.toList = b4.toList <;> simp [h1, h2, h3, h4]
@[go_sem] theorem eg_fld : Tryz.prog.eqGuardType Tryz.prog.depth 69 = false := by kernel_rfl
@[go_sem] theorem eq_fld (a c : ByteArray) (k1 k2 : Int) (n1 n2 : ByteArray) (w : World) : (Op.equalIn 10000 69 (.agg #[.string a, .int .i64 k1, .string n1]) (.agg #[.string c, .int .i64 k2, .string n2])).run Tryz.prog w = .ok (a.toList == c.toList && (k1 == k2 && n1.toList == n2.toList)) w := by
 have iu3 := Tryz.underlying3
 have ia3 := Tryz.isAgg3
 have iz3 := Tryz.sizeOf3
 have iu9 := Tryz.underlying9
 have ia9 := Tryz.isAgg9
 have iz9 := Tryz.sizeOf9
 have ik := Tryz.underlying61
 have iak : ∀ W : World, (Go.isAgg 61).run Tryz.prog W = .ok true W := Tryz.isAgg61
 have izk : ∀ W : World, (Go.sizeOf 61).run Tryz.prog W = .ok 2 W := Tryz.sizeOf61
 have hS : Tryz.prog.underlying 69 = some (.struct (Tryz.prog.fieldsOf 69)) := by kernel_rfl
 have hp : Tryz.prog.stoodInHeld 69 = false := by kernel_rfl
 have hSk : Tryz.prog.underlying 61 = some (.struct (Tryz.prog.fieldsOf 61)) := by kernel_rfl
 have hpk : Tryz.prog.stoodInHeld 61 = false := by kernel_rfl
 have hk : ∀ W : World, (Op.equalIn 9999 61 (.agg #[.int .i64 k1, .string n1]) (.agg #[.int .i64 k2, .string n2])).run Tryz.prog W = .ok (k1 == k2 && n1.toList == n2.toList) W := fun W => by
  rw [show (9999 : Nat) = 9998 + 1 from rfl, run_equalIn_agg W 9998 61 _ _ hSk hpk]
  simp only [Program.fieldsOf, Tryz.underlying61]
  go_simp
  by_cases h1 : k1 = k2 <;> by_cases h2 : n1.toList = n2.toList <;> simp [h1, h2]
 rw [show (10000 : Nat) = 9999 + 1 from rfl, run_equalIn_agg w 9999 69 _ _ hS hp]
 simp only [Program.fieldsOf, Tryz.underlying69]
 go_simp
 by_cases h1 : a.toList = c.toList <;> by_cases h2 : k1 = k2 <;> by_cases h3 : n1.toList = n2.toList <;> simp [h1, h2, h3, hk]

theorem I_eqClsFieldS (xs ys : List DClsField) (v1 u1 : Value) (w : World) (s1 : Sl 3 rClsField 0 w v1 xs) (t1 : Sl 3 rClsField 0 w u1 ys) :
  Calls Tryz.prog 31 #[v1, u1] w fun e w' => e = .returned (.bool (eqL fldEq xs ys)) ∧ Below w.heap.size w w' := by
 obtain ⟨a, len, cap, rfl, hl, h1, h2, h3⟩ := id s1
 obtain ⟨a', len', cap', rfl, hl', h1', h2', h3'⟩ := id t1
 have m1 : len ≤ 9223372036854775807 := by unfold maxLen at h2; omega
 have m1' : len' ≤ 9223372036854775807 := by unfold maxLen at h2'; omega
 have HL := qhd hl
 have HL' := qhd hl'
 clear h2 hl h2' hl' h1 h1'
 obtain ⟨z, hz⟩ : ∃ z, z = eqL fldEq xs ys := ⟨_, rfl⟩
 have HZ := qhd hz
 rw [← hz]
 clear hz
 by_cases hlen : ¬ len = len'
 ·have RV : Hid (z = false) := qhd (by rw [HZ.out]; exact eqL_len (by rw [HL.out, HL'.out]; exact hlen))
  have i1 : ((len : Int) != (len' : Int)) = true := by simp; omega
  have i2 : ¬ (len : Int) = (len' : Int) := by omega
  refine qab fun R HR => ?_
  go_enter Tryz.func31, Tryz.ntmps31
  go_wp2
  all_goals (try go_returns)
  all_goals exact HR.out _ _ ⟨by rw [RV.out]; rfl, bbel⟩
 obtain rfl : len = len' := Decidable.byContradiction hlen
 clear hlen
 refine qab fun R HR => ?_
 go_enter Tryz.func31, Tryz.ntmps31
 go_wp2_with fail
 go_loopw [5, 13] (fun _ i wr => ∃ k : Nat, k ≤ len ∧ i = .int .i64 k ∧ EachTo (eqAt fldEq ys) xs k = true ∧ Below w.heap.size w wr) (fun _ i _ => len - (intOf i).toNat)
 case atStart => exact ⟨0, Nat.zero_le _, rfl, rfl, bbel⟩
 case round =>
  obtain ⟨k, hk, rfl, ha, hb⟩ := hrel
  have HA := qhd ha
  clear ha
  by_cases hlt : k < len
  ·obtain ⟨b, off, rfl, _, _, hr⟩ := h3.stays qap (Keeps.of_below hb) (by omega)
   obtain ⟨b', off', rfl, _, _, hr'⟩ := h3'.stays qap (Keeps.of_below hb) (by omega)
   obtain ⟨x, cs, e0, _, e1, e4⟩ := hr k hlt
   obtain ⟨y, cs', f0, _, f1, f4⟩ := hr' k hlt
   obtain ⟨rfl, _⟩ := e4
   obtain ⟨rfl, _⟩ := f4
   have q0 : wr.cell? ⟨b, off + k * 3, none⟩ = some (.string x.fName) := e1 0 _ rfl
   have p0 : wr.cell? ⟨b', off' + k * 3, none⟩ = some (.string y.fName) := f1 0 _ rfl
   have q1 : wr.cell? ⟨b, off + k * 3 + 1, none⟩ = some (.int .i64 x.fKind.fKind) := e1 1 _ rfl
   have p1 : wr.cell? ⟨b', off' + k * 3 + 1, none⟩ = some (.int .i64 y.fKind.fKind) := f1 1 _ rfl
   have q2 : wr.cell? ⟨b, off + k * 3 + 2, none⟩ = some (.string x.fKind.fName) := e1 2 _ rfl
   have p2 : wr.cell? ⟨b', off' + k * 3 + 2, none⟩ = some (.string y.fKind.fName) := f1 2 _ rfl
   have E0 := qhd e0
   have F0 := qhd f0
   clear e0 e1 f0 f1 hr hr'
   obtain ⟨q, hq⟩ : ∃ q, q = fldEq x y := ⟨_, rfl⟩
   have bo : ∀ W, (binOp .neq 69 (.agg #[.string x.fName, .int .i64 x.fKind.fKind, .string x.fKind.fName]) (.agg #[.string y.fName, .int .i64 y.fKind.fKind, .string y.fKind.fName])).run Tryz.prog W = .ok (.bool !q) W := fun W => by
    rw [hq]
    simp only [run_neq_struct, eq_fld]
    try simp [Result.andThen, fldEq, kndEq]
   have HQ := qhd hq
   clear hq
   cases q
   ·have RV : Hid (z = false) := qhd (by rw [HZ.out]; exact eqL_stop (qal E0.out (by unfold eqAt; rw [F0.out]; exact HQ.out.symm)))
    go_wp2_with fail
    go_region
    go_wp2
    all_goals (try go_returns)
    all_goals exact HR.out _ _ ⟨by first | (rw [RV.out]; done) | (rw [RV.out]; rfl), bbel⟩
   ·go_wp2_with fail
    go_region
    go_wp2
    go_roundw
    case measure => simp [intOf]; omega
    case rel => exact ⟨k + 1, by omega, by go_num, EachTo.step HA.out E0.out (by unfold eqAt; rw [F0.out]; exact HQ.out.symm), bbel⟩
  ·obtain rfl : k = len := by omega
   have RV : Hid (z = true) := qhd (by rw [HZ.out]; exact eqL_done (HL.out.trans HL'.out.symm) (qav HA.out HL.out))
   go_wp2
   all_goals (try go_returns)
   all_goals exact HR.out _ _ ⟨by rw [RV.out]; rfl, bbel⟩

theorem I_eqClsInsS (xs ys : List DClsIns) (v1 u1 : Value) (w : World) (s1 : Sl 4 rClsIns 0 w v1 xs) (t1 : Sl 4 rClsIns 0 w u1 ys) :
  Calls Tryz.prog 58 #[v1, u1] w fun e w' => e = .returned (.bool (eqL insEq xs ys)) ∧ Below w.heap.size w w' := by
 obtain ⟨a, len, cap, rfl, hl, h1, h2, h3⟩ := id s1
 obtain ⟨a', len', cap', rfl, hl', h1', h2', h3'⟩ := id t1
 have m1 : len ≤ 9223372036854775807 := by unfold maxLen at h2; omega
 have m1' : len' ≤ 9223372036854775807 := by unfold maxLen at h2'; omega
 have HL := qhd hl
 have HL' := qhd hl'
 clear h2 hl h2' hl' h1 h1'
 obtain ⟨z, hz⟩ : ∃ z, z = eqL insEq xs ys := ⟨_, rfl⟩
 have HZ := qhd hz
 rw [← hz]
 clear hz
 by_cases hlen : ¬ len = len'
 ·have RV : Hid (z = false) := qhd (by rw [HZ.out]; exact eqL_len (by rw [HL.out, HL'.out]; exact hlen))
  have i1 : ((len : Int) != (len' : Int)) = true := by simp; omega
  have i2 : ¬ (len : Int) = (len' : Int) := by omega
  refine qab fun R HR => ?_
  go_enter Tryz.func58, Tryz.ntmps58
  go_wp2
  all_goals (try go_returns)
  all_goals exact HR.out _ _ ⟨by rw [RV.out]; rfl, bbel⟩
 obtain rfl : len = len' := Decidable.byContradiction hlen
 clear hlen
 refine qab fun R HR => ?_
 go_enter Tryz.func58, Tryz.ntmps58
 go_wp2_with fail
 go_loopw [5, 13] (fun _ i wr => ∃ k : Nat, k ≤ len ∧ i = .int .i64 k ∧ EachTo (eqAt insEq ys) xs k = true ∧ Below w.heap.size w wr) (fun _ i _ => len - (intOf i).toNat)
 case atStart => exact ⟨0, Nat.zero_le _, rfl, rfl, bbel⟩
 case round =>
  obtain ⟨k, hk, rfl, ha, hb⟩ := hrel
  have HA := qhd ha
  clear ha
  by_cases hlt : k < len
  ·obtain ⟨b, off, rfl, _, _, hr⟩ := h3.stays qau (Keeps.of_below hb) (by omega)
   obtain ⟨b', off', rfl, _, _, hr'⟩ := h3'.stays qau (Keeps.of_below hb) (by omega)
   obtain ⟨x, cs, e0, _, e1, e4⟩ := hr k hlt
   obtain ⟨y, cs', f0, _, f1, f4⟩ := hr' k hlt
   obtain ⟨rfl, _⟩ := e4
   obtain ⟨rfl, _⟩ := f4
   have q0 : wr.cell? ⟨b, off + k * 4, none⟩ = some (.int .i64 x.fOp) := e1 0 _ rfl
   have p0 : wr.cell? ⟨b', off' + k * 4, none⟩ = some (.int .i64 y.fOp) := f1 0 _ rfl
   have q1 : wr.cell? ⟨b, off + k * 4 + 1, none⟩ = some (.int .i64 x.fA) := e1 1 _ rfl
   have p1 : wr.cell? ⟨b', off' + k * 4 + 1, none⟩ = some (.int .i64 y.fA) := f1 1 _ rfl
   have q2 : wr.cell? ⟨b, off + k * 4 + 2, none⟩ = some (.string x.fName) := e1 2 _ rfl
   have p2 : wr.cell? ⟨b', off' + k * 4 + 2, none⟩ = some (.string y.fName) := f1 2 _ rfl
   have q3 : wr.cell? ⟨b, off + k * 4 + 3, none⟩ = some (.string x.fMember) := e1 3 _ rfl
   have p3 : wr.cell? ⟨b', off' + k * 4 + 3, none⟩ = some (.string y.fMember) := f1 3 _ rfl
   have E0 := qhd e0
   have F0 := qhd f0
   clear e0 e1 f0 f1 hr hr'
   obtain ⟨q, hq⟩ : ∃ q, q = insEq x y := ⟨_, rfl⟩
   have bo : ∀ W, (binOp .neq 91 (.agg #[.int .i64 x.fOp, .int .i64 x.fA, .string x.fName, .string x.fMember]) (.agg #[.int .i64 y.fOp, .int .i64 y.fA, .string y.fName, .string y.fMember])).run Tryz.prog W = .ok (.bool !q) W := fun W => by
    rw [hq]
    simp only [run_neq_struct, eq_ins4]
    try simp [Result.andThen, insEq, kndEq]
   have HQ := qhd hq
   clear hq
   cases q
   ·have RV : Hid (z = false) := qhd (by rw [HZ.out]; exact eqL_stop (qal E0.out (by unfold eqAt; rw [F0.out]; exact HQ.out.symm)))
    go_wp2_with fail
    go_region
    go_wp2
    all_goals (try go_returns)
    all_goals exact HR.out _ _ ⟨by first | (rw [RV.out]; done) | (rw [RV.out]; rfl), bbel⟩
   ·go_wp2_with fail
    go_region
    go_wp2
    go_roundw
    case measure => simp [intOf]; omega
    case rel => exact ⟨k + 1, by omega, by go_num, EachTo.step HA.out E0.out (by unfold eqAt; rw [F0.out]; exact HQ.out.symm), bbel⟩
  ·obtain rfl : k = len := by omega
   have RV : Hid (z = true) := qhd (by rw [HZ.out]; exact eqL_done (HL.out.trans HL'.out.symm) (qav HA.out HL.out))
   go_wp2
   all_goals (try go_returns)
   all_goals exact HR.out _ _ ⟨by rw [RV.out]; rfl, bbel⟩

theorem I_eqTagTagS (xs ys : List DTagTag) (v1 u1 : Value) (w : World) (s1 : Sl 2 rTagTag 0 w v1 xs) (t1 : Sl 2 rTagTag 0 w u1 ys) :
  Calls Tryz.prog 77 #[v1, u1] w fun e w' => e = .returned (.bool (eqL tagEq xs ys)) ∧ Below w.heap.size w w' := by
 obtain ⟨a, len, cap, rfl, hl, h1, h2, h3⟩ := id s1
 obtain ⟨a', len', cap', rfl, hl', h1', h2', h3'⟩ := id t1
 have m1 : len ≤ 9223372036854775807 := by unfold maxLen at h2; omega
 have m1' : len' ≤ 9223372036854775807 := by unfold maxLen at h2'; omega
 have HL := qhd hl
 have HL' := qhd hl'
 clear h2 hl h2' hl' h1 h1'
 obtain ⟨z, hz⟩ : ∃ z, z = eqL tagEq xs ys := ⟨_, rfl⟩
 have HZ := qhd hz
 rw [← hz]
 clear hz
 by_cases hlen : ¬ len = len'
 ·have RV : Hid (z = false) := qhd (by rw [HZ.out]; exact eqL_len (by rw [HL.out, HL'.out]; exact hlen))
  have i1 : ((len : Int) != (len' : Int)) = true := by simp; omega
  have i2 : ¬ (len : Int) = (len' : Int) := by omega
  refine qab fun R HR => ?_
  go_enter Tryz.func77, Tryz.ntmps77
  go_wp2
  all_goals (try go_returns)
  all_goals exact HR.out _ _ ⟨by rw [RV.out]; rfl, bbel⟩
 obtain rfl : len = len' := Decidable.byContradiction hlen
 clear hlen
 refine qab fun R HR => ?_
 go_enter Tryz.func77, Tryz.ntmps77
 go_wp2_with fail
 go_loopw [5, 13] (fun _ i wr => ∃ k : Nat, k ≤ len ∧ i = .int .i64 k ∧ EachTo (eqAt tagEq ys) xs k = true ∧ Below w.heap.size w wr) (fun _ i _ => len - (intOf i).toNat)
 case atStart => exact ⟨0, Nat.zero_le _, rfl, rfl, bbel⟩
 case round =>
  obtain ⟨k, hk, rfl, ha, hb⟩ := hrel
  have HA := qhd ha
  clear ha
  by_cases hlt : k < len
  ·obtain ⟨b, off, rfl, _, _, hr⟩ := h3.stays qaq (Keeps.of_below hb) (by omega)
   obtain ⟨b', off', rfl, _, _, hr'⟩ := h3'.stays qaq (Keeps.of_below hb) (by omega)
   obtain ⟨x, cs, e0, _, e1, e4⟩ := hr k hlt
   obtain ⟨y, cs', f0, _, f1, f4⟩ := hr' k hlt
   obtain ⟨rfl, _⟩ := e4
   obtain ⟨rfl, _⟩ := f4
   have q0 : wr.cell? ⟨b, off + k * 2, none⟩ = some (.int .i64 x.fKind) := e1 0 _ rfl
   have p0 : wr.cell? ⟨b', off' + k * 2, none⟩ = some (.int .i64 y.fKind) := f1 0 _ rfl
   have q1 : wr.cell? ⟨b, off + k * 2 + 1, none⟩ = some (.string x.fName) := e1 1 _ rfl
   have p1 : wr.cell? ⟨b', off' + k * 2 + 1, none⟩ = some (.string y.fName) := f1 1 _ rfl
   have E0 := qhd e0
   have F0 := qhd f0
   clear e0 e1 f0 f1 hr hr'
   obtain ⟨q, hq⟩ : ∃ q, q = tagEq x y := ⟨_, rfl⟩
   have bo : ∀ W, (binOp .neq 94 (.agg #[.int .i64 x.fKind, .string x.fName]) (.agg #[.int .i64 y.fKind, .string y.fName])).run Tryz.prog W = .ok (.bool !q) W := fun W => by
    rw [hq]
    simp only [run_neq_struct, eq_tag]
    try simp [Result.andThen, tagEq, kndEq]
   have HQ := qhd hq
   clear hq
   cases q
   ·have RV : Hid (z = false) := qhd (by rw [HZ.out]; exact eqL_stop (qal E0.out (by unfold eqAt; rw [F0.out]; exact HQ.out.symm)))
    go_wp2_with fail
    go_region
    go_wp2
    all_goals (try go_returns)
    all_goals exact HR.out _ _ ⟨by first | (rw [RV.out]; done) | (rw [RV.out]; rfl), bbel⟩
   ·go_wp2_with fail
    go_region
    go_wp2
    go_roundw
    case measure => simp [intOf]; omega
    case rel => exact ⟨k + 1, by omega, by go_num, EachTo.step HA.out E0.out (by unfold eqAt; rw [F0.out]; exact HQ.out.symm), bbel⟩
  ·obtain rfl : k = len := by omega
   have RV : Hid (z = true) := qhd (by rw [HZ.out]; exact eqL_done (HL.out.trans HL'.out.symm) (qav HA.out HL.out))
   go_wp2
   all_goals (try go_returns)
   all_goals exact HR.out _ _ ⟨by rw [RV.out]; rfl, bbel⟩

theorem tl_inj {a b : ByteArray} : a.toList = b.toList ↔ a = b := by
 rw [← sameN_iff]; simp [sameN]
theorem eqL_iff {α : Type} {f : α → α → Bool} (hf : ∀ a b, f a b = true ↔ a = b) {xs ys : List α} : eqL f xs ys = true ↔ xs = ys := by
 constructor
 ·intro h
  simp only [eqL, Bool.and_eq_true, decide_eq_true_eq] at h
  obtain ⟨hl, h⟩ := h
  refine List.ext_getElem? fun i => ?_
  by_cases hi : i < xs.length
  ·have hx := List.getElem?_eq_getElem hi
   have hy := List.getElem?_eq_getElem (l := ys) (i := i) (by omega)
   have h9 := each_iff.1 h i _ hx
   simp only [eqAt, hy] at h9
   rw [hx, hy, (hf _ _).1 h9]
  ·rw [List.getElem?_eq_none (by omega), List.getElem?_eq_none (by omega)]
 ·rintro rfl
  simp only [eqL, Bool.and_eq_true, decide_eq_true_eq, true_and]
  refine each_iff.2 fun k x hx => ?_
  simp only [eqAt, hx]
  exact (hf _ _).2 rfl
theorem insEq_iff (a b : DClsIns) : insEq a b = true ↔ a = b := by
 cases a; cases b
 simp [insEq, tl_inj, and_assoc]
theorem tagEq_iff' (a b : DTagTag) : tagEq a b = true ↔ a = b := by
 cases a; cases b
 simp [tagEq, tl_inj, and_assoc]
theorem fldEq_iff (a b : DClsField) : fldEq a b = true ↔ a = b := by
 cases a; cases b
 simp [fldEq, tl_inj, kndEq_iff]
theorem mapEq_iff (a b : DClsMap) : mapEq a b = true ↔ a = b := by
 cases a; cases b
 simp [mapEq, eqL_iff tagEq_iff', and_assoc]
theorem sameArgs_iff {xs ys : List DKndKind} : sameArgs xs ys = true ↔ xs = ys := by
 have : sameArgs xs ys = eqL kndEq xs ys := by
  have : argAt ys = eqAt kndEq ys := by funext k x; unfold argAt eqAt; cases ys[k]? <;> rfl
  unfold sameArgs eqL; rw [this]
 rw [this]; exact eqL_iff (fun a b => kndEq_iff)
theorem mthEq_iff (a b : DClsMethod) : mthEq a b = true ↔ a = b := by
 cases a; cases b
 simp only [mthEq, sameSig, Bool.and_eq_true, beq_iff_eq, tl_inj, kndEq_iff, sameArgs_iff, eqL_iff insEq_iff, eqL_iff mapEq_iff, DClsMethod.mk.injEq]
 constructor
 ·rintro ⟨⟨⟨⟨⟨h1, h2, h3⟩, h4⟩, h5⟩, h6⟩, h7⟩; exact ⟨h1, h3, h2, h4, h5, h6, h7⟩
 ·rintro ⟨h1, h3, h2, h4, h5, h6, h7⟩; exact ⟨⟨⟨⟨⟨h1, h2, h3⟩, h4⟩, h5⟩, h6⟩, h7⟩
theorem clsEq_iff (a b : DClsClass) : clsEq a b = true ↔ a = b := by
 cases a; cases b
 simp [clsEq, tl_inj, eqL_iff fldEq_iff, eqL_iff mthEq_iff, and_assoc]
@[go_sem] theorem eg_ask : Tryz.prog.eqGuardType Tryz.prog.depth 51 = false := by kernel_rfl
@[go_sem] theorem eq_ask (a c : ByteArray) (k1 k2 : Int) (w : World) : (Op.equalIn 10000 51 (.agg #[.string a, .int .i64 k1]) (.agg #[.string c, .int .i64 k2])).run Tryz.prog w = .ok (a.toList == c.toList && k1 == k2) w := by
 have iu3 := Tryz.underlying3
 have ia3 := Tryz.isAgg3
 have iz3 := Tryz.sizeOf3
 have iu9 := Tryz.underlying9
 have ia9 := Tryz.isAgg9
 have iz9 := Tryz.sizeOf9
 have hS : Tryz.prog.underlying 51 = some (.struct (Tryz.prog.fieldsOf 51)) := by kernel_rfl
 have hp : Tryz.prog.stoodInHeld 51 = false := by kernel_rfl
 rw [show (10000 : Nat) = 9999 + 1 from rfl, run_equalIn_agg w 9999 51 _ _ hS hp]
 simp only [Program.fieldsOf, Tryz.underlying51]
 go_simp
 by_cases h1 : a.toList = c.toList <;> by_cases h2 : k1 = k2 <;> simp [h1, h2]

theorem nameV {P : World → Prop} (w : World) (h : ∀ W, W = w → P W) : P w := h w rfl
end Go.Proofs.YtfbonocadpknbaaGreatDoor
